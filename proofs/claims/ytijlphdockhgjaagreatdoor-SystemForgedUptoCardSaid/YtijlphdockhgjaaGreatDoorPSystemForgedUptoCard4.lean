/-
  SMALL FACTS FOR THE WALKS OVER THE CHECKER: own work.
-/
import Derived.Test.YtijlphdockhgjaaGreatDoorPSystemForgedUptoCard3
set_option linter.unusedVariables false
set_option linter.unusedSimpArgs false
set_option maxRecDepth 100000
set_option maxHeartbeats 2000000
namespace Go.Proofs.YtijlphdockhgjaaGreatDoor.Sv
open Go
inductive aF:Nat->Nat->Nat->Prop
  |a:aF 6 5 10
  |b:aF 8 7 11
theorem vv{M:Nat->Nat->Nat->Prop}(h1:let p:=6;let v:=5;let o:=10;M p v o)(h2:let p:=8;let v:=7;let o:=11;M p v o):∀p v o,aF p v o->M p v o
 |_,_,_,.a=>h1
 |_,_,_,.b=>h2
theorem j8{x y z:Int}(h1: -9223372036854775808<=x+y)(h2:x+y<=9223372036854775807)(hz:z=x+y):AM .add (.int .i64 x) (.int .i64 y)=some (.int .i64 z):=by
 subst hz;show Bf .add .i64 x y=_;simp only[Bf];rw[B4 h1 h2]
theorem tP{x y z:Int}(h1: -9223372036854775808<=x-y)(h2:x-y<=9223372036854775807)(hz:z=x-y):AM .sub (.int .i64 x) (.int .i64 y)=some (.int .i64 z):=by
 subst hz;show Bf .sub .i64 x y=_;simp only[Bf];rw[B4 h1 h2]
theorem xP{x y z:Int}(h1: -9223372036854775808<=x*y)(h2:x*y<=9223372036854775807)(hz:z=x*y):AM .mul (.int .i64 x) (.int .i64 y)=some (.int .i64 z):=by
 subst hz;show Bf .mul .i64 x y=_;simp only[Bf];rw[B4 h1 h2]
theorem lE{k:List Int}{K:List (List Int)}{first:Int}(h:(!(Ng k (B5 first K)).isSome)=true):kidx k K=none:=by
 rw[Lk]at h
 cases e:kidx k K with
 |none=>rfl
 |some i=>rw[e]at h;cases h
theorem lD{k:List Int}{K:List (List Int)}{first:Int}(h:(!(Ng k (B5 first K)).isSome)=false):∃i,kidx k K=some i:=by
 rw[Lk]at h
 cases e:kidx k K with
 |none=>rw[e]at h;cases h
 |some i=>exact⟨i,rfl⟩
theorem Lj{k:List Int}{K:List (List Int)}{first:Int}(h:kidx k K=none):Ck first K k=(first+(K.length:Int),K++[k]):=by unfold Ck;rw[h]
theorem Li{k:List Int}{K:List (List Int)}{first:Int}{i:Nat}(h:kidx k K=some i):Ck first K k=(first+(i:Int),K):=by unfold Ck;rw[h]
theorem Pw{K:List (List Int)}{n:Nat}{q:IntKind}(h:∀k∈K,k.length=n):∀cs∈K.map (Ao q),cs.length=n:=fun cs hc=>by
 obtain⟨k,hk,rfl⟩:=List.mem_map.1 hc;simp[Ao,h k hk]
theorem dY(q:IntKind)(k:List Int):(Ao q k).all AV.isPure1=true:=by
 rw[List.all_eq_true];intro x hx;obtain⟨n,_,rfl⟩:=List.mem_map.1 hx;rfl
theorem MR{q:IntKind}(K:List (List Int)):∀cs∈K.map (Ao q),cs.all AV.isPure1=true:=fun cs hc=>by
 obtain⟨k,hk,rfl⟩:=List.mem_map.1 hc;exact dY q k
theorem ND{k:Nat->Bool}(x:Int)(es:List (List AV))(h1:k 3=true)(h2:k 9=true):(AObj.row false 3 [[.int .i64 x,.map 3,CY 9 es]]).avoid k=true:=by
 have h:=DV es h2;have g:(AV.map 3).avoid k=true:=h1;have g2:(AV.int .i64 x).avoid k=true:=rfl;simp only[AObj.avoid,List.all_cons,List.all_nil,h,g,g2,Bool.and_self]
theorem Np{k:Nat->Bool}{v p:Nat}(es es2:List (List AV))(x:Int)(h1:k 4=true)(h2:k v=true)(h3:k p=true):(AObj.row false 4 [[.ptr 4 1 0 0,DR v es,CY p es2,.int .i64 x]]).avoid k=true:=by
 have h:=DV es2 h3;have h':=Hx es h2;have g:(AV.ptr 4 1 0 0).avoid k=true:=h1;have g2:(AV.int .i64 x).avoid k=true:=rfl;simp only[AObj.avoid,List.all_cons,List.all_nil,h,h',g,g2,Bool.and_self]
theorem xR{k:List Int}(h:k.length=4):∃a b c d,k=[a,b,c,d]:=by
 match k,h with
 | [a,b,c,d],_=>exact⟨a,b,c,d,rfl⟩
theorem Lm(first:Int)(K:List (List Int))(n:Int):Hf (AZ first K n).1:=by
 unfold AZ
 cases decide (n<first)with
 |true=>exact Mk
 |false=>exact DL _
theorem vK{first:Int}{K:List (List Int)}{n:Int}(h4:∀k∈K,k.length=4)(hn:0<=n/\n<first+K.length)(h:decide (n<first)=false):
 0<=n-first/\n-first<((K.map (Ao .i64)).length:Int)/\∃a b c d:Int,(K.map (Ao .i64))[(n-first).toNat]?=some [.int .i64 a,.int .i64 b,.int .i64 c,.int .i64 d]/\AZ first K n=(IntKind.u32.wrap b,a==1):=by
 have hge:first<=n:=by simpa using h
 have hlt:(n-first).toNat<K.length:=by omega
 obtain⟨k,hk⟩:=Ag hlt;obtain⟨a,b,c,d,rfl⟩:=xR (h4 k (List.mem_of_getElem? hk));refine⟨by omega,by rw[List.length_map];omega,a,b,c,d,by rw[List.getElem?_map,hk];rfl,?_⟩;unfold AZ;rw[h,hk];rfl
theorem HY{first:Int}{K:List (List Int)}{n:Int}(h:decide (n<first)=true):AZ first K n=(0,false):=by unfold AZ;rw[h];rfl
theorem PR{first:Int}{K:List (List Int)}{op a b:Int}(h1:(AZ first K a).2=true)(h2:(AZ first K b).2=true)(h3:((B1 op (AZ first K a).1 (AZ first K b).1).2==0)=true):Bs first K op a b=Ck first K [1,(B1 op (AZ first K a).1 (AZ first K b).1).1,0,0]:=by
 unfold Bs;rw[h1,h2,h3];rfl
theorem Ny{first:Int}{K:List (List Int)}{op a b:Int}(h1:(AZ first K a).2=false):Bs first K op a b=Ck first K [2,op,a,b]:=by
 unfold Bs;rw[h1];rfl
theorem Nx{first:Int}{K:List (List Int)}{op a b:Int}(h1:(AZ first K b).2=false):Bs first K op a b=Ck first K [2,op,a,b]:=by
 unfold Bs;rw[h1,Bool.and_false];rfl
theorem Nw{first:Int}{K:List (List Int)}{op a b:Int}(h3:((B1 op (AZ first K a).1 (AZ first K b).1).2==0)=false):Bs first K op a b=Ck first K [2,op,a,b]:=by
 unfold Bs;rw[h3,Bool.and_false];rfl
structure Pz(t:Tac)(R:Nat):Prop where
  d:setsOp t.op=true->0<=t.d/\t.d<R
  a:use1 t.op=true\/use2 t.op=true->0<=t.a/\t.a<R
  b:use2 t.op=true->0<=t.b/\t.b<R
  n:Hf t.n
def A8(l:List Int):List (List AV):=l.map fun n=>[AV.int .i64 n]
abbrev P4(h:Aa)(first:Int)(K:List (List Int)):Aa:=(Al (Al (Al h 3 (.map (BI .i64 (B5 first K)))) 4 (.row false 3 [[.int .i64 first,.map 3,CY 9 (K.map (Ao .i64))]])) 9 (Dv 4 (K.map (Ao .i64))))
abbrev KR(p v o:Nat)(h:Aa)(w:VW):Aa:=(Al (Al (Al h p (.row false 4 [[.ptr 4 1 0 0,DR v (A8 w.vals),CY o (w.effs.map (Ao .i64)),.int .i64 w.time]])) v (Fe (A8 w.vals))) o (Dv 6 (w.effs.map (Ao .i64))))
abbrev vH(p v o:Nat)(first:Int)(h:Aa)(w:VW):Aa:=KR p v o (P4 h first w.K) w
theorem CM(l:List Int):(A8 l).length=l.length:=List.length_map ..
theorem Dz(l:List Int):∀cs∈A8 l,cs.length=1:=fun cs hc=>by
 obtain⟨n,_,rfl⟩:=List.mem_map.1 hc;rfl
theorem B6{l:List Int}{z:Int}(h:0<=z/\z<l.length):(A8 l)[z.toNat]?=some [AV.int .i64 (Ah l z)]:=by
 unfold A8 Ah;rw[List.getElem?_map,List.getElem?_eq_getElem Ab];rfl
theorem Xt(l:List Int)(z v:Int):A8 (Bi l z v)=(A8 l).set z.toNat [AV.int .i64 v]:=by
 unfold A8 Bi;rw[List.map_set]
theorem II(b:Nat)(l:List Int)(z v:Int):DR b (A8 (Bi l z v))=DR b (A8 l):=OG (by rw[CM,CM,By])
theorem dV{first:Int}{w:VW}{t:Tac}(h:vrisky first w t=true):w.bin first t=⟨(Bs first w.K t.k (Ah w.vals t.a) (Ah w.vals t.b)).2,Bi w.vals t.d (Bs first w.K t.k (Ah w.vals t.a) (Ah w.vals t.b)).1,w.effs++[[1,t.k,Ah w.vals t.a,Ah w.vals t.b,0,0]],w.time⟩:=by
 unfold VW.bin VW.div VW.put;rw[h];rfl
theorem jZ{first:Int}{w:VW}{t:Tac}(h:vrisky first w t=false):w.bin first t=⟨(Bs first w.K t.k (Ah w.vals t.a) (Ah w.vals t.b)).2,Bi w.vals t.d (Bs first w.K t.k (Ah w.vals t.a) (Ah w.vals t.b)).1,w.effs,w.time⟩:=by
 unfold VW.bin VW.div VW.put;rw[h];rfl
theorem VOk.at{first:Int}{R m:Nat}{w:VW}(h:VOk first R m w){z:Int}(hz:0<=z/\z<R):0<=z/\z<w.vals.length/\z<((A8 w.vals).length:Int)/\0<=Ah w.vals z/\Ah w.vals z<first+w.K.length:=by
 have h1:=h.vl;have h2:=h.v _ (T0 (z:=z) (by rw[h1];exact hz));rw[CM,h1];exact⟨hz.1,hz.2,hz.2,h2.1,h2.2⟩
theorem Xr{first:Int}{w:VW}{t:Tac}(ho:t.op=1):w.step first t=w.put t.d (Ck first w.K [1,t.n,0,0]):=by
 unfold VW.step;rw[ho];rfl
theorem Xq{first:Int}{w:VW}{t:Tac}(ho:t.op=2):w.step first t={w with vals:=Bi w.vals t.d (Ah w.vals t.a)}:=by
 unfold VW.step;rw[ho];rfl
theorem Xp{first:Int}{w:VW}{t:Tac}(ho:t.op=3):w.step first t=w.bin first t:=by
 unfold VW.step;rw[ho];rfl
theorem Xo{first:Int}{w:VW}{t:Tac}(ho:t.op=4):w.step first t=w.put t.d (Ck first w.K [3,t.base,w.time,0]):=by
 unfold VW.step;rw[ho];rfl
theorem Xn{first:Int}{w:VW}{t:Tac}(ho:t.op=5):w.step first t=(w.hap t (Ah w.vals t.a) 0).tick:=by
 unfold VW.step;rw[ho];rfl
theorem Xm{first:Int}{w:VW}{t:Tac}(ho:t.op=6):w.step first t=(w.hap t (Ah w.vals t.a) 0).put t.d (GN first (w.hap t (Ah w.vals t.a) 0)):=by
 unfold VW.step;rw[ho];rfl
theorem Xl{first:Int}{w:VW}{t:Tac}(ho:t.op=7):w.step first t=(w.hap t (Ah w.vals t.a) (Ah w.vals t.b)).tick:=by
 unfold VW.step;rw[ho];rfl
theorem Xk{first:Int}{w:VW}{t:Tac}(ho:t.op=8):w.step first t=(w.hap t 0 0).put t.d (GN first (w.hap t 0 0)):=by
 unfold VW.step;rw[ho];rfl
theorem Xj{first:Int}{w:VW}{t:Tac}(ho:t.op=9):w.step first t=w.hap t (Ah w.vals t.a) 0:=by
 unfold VW.step;rw[ho];rfl
theorem TF{first:Int}{w:VW}{t:Tac}(ho:t.op=10):w.step first t=(w.hap t 0 0).tick:=by
 unfold VW.step;rw[ho];rfl
theorem ic{first:Int}{w:VW}{t:Tac}(h1:(t.op==1)=false)(h2:(t.op==2)=false)(h3:(t.op==3)=false)(h4:(t.op==4)=false)(h5:(t.op==5)=false)(h6:(t.op==6)=false)(h7:(t.op==7)=false)(h8:(t.op==8)=false)(h9:(t.op==9)=false)(h10:(t.op==10)=false):w.step first t=w:=by
 unfold VW.step;rw[h1,h2,h3,h4,h5,h6,h7,h8,h9,h10];rfl
theorem XA{x:Int}(h:0<=x/\x<=90000):AM .add (.int .i64 x) (.int .i64 1)=some (.int .i64 (x+1)):=j8 Ab Ab rfl
def B0(R k:Nat)(f:Nat->Int):List Int:=(List.range k).map f++List.replicate (R-k) 0
theorem Ds{R k:Nat}(f:Nat->Int)(h:k<=R):(B0 R k f).length=R:=by simp[B0];omega
theorem Ln(R:Nat)(f:Nat->Int):A8 (B0 R 0 f)=List.replicate R [AV.int .i64 0]:=by
 simp[B0,A8]
theorem Wm{R k:Nat}(f:Nat->Int)(h:k<R):(B0 R k f).set k (f k)=B0 R (k+1) f:=by
 unfold B0;rw[List.set_append_right _ _ Az,List.range_succ,List.map_append,List.append_assoc];congr 1;rw[show R-k=(R-(k+1))+1 by omega,List.replicate_succ]
 simp
theorem HO(R:Nat)(f:Nat->Int):B0 R R f=(List.range R).map f:=by simp[B0]
def GP(R:Nat):List Int:=(List.range R).map fun(v:Nat)=>(v:Int)
def CO(R:Nat)(row:List Bool)(v:Nat):Int:=bif (row[v]?).getD false then(v:Int)else((R+v:Nat):Int)
def F1(R:Nat)(row:List Bool):List Int:=(List.range R).map (CO R row)
def Cert.at'(c:Cert)(k:Int):List Bool:=(c.same[k.toNat]?).getD []
def BQ(first:Int)(l:List Tac)(w:VW):VW:=l.foldl (VW.step first) w
def BA(R:Nat)(old:Block):VW:=BQ (2*R:Nat) old.ins ⟨[],GP R,[],0⟩
def Cl(R:Nat)(old new:Block)(row:List Bool):VW:=BQ (2*R:Nat) new.ins ⟨(BA R old).K,F1 R row,[],0⟩
def DU(x y:VW)(row:List Bool):Bool:=row.zipIdx.all fun p=> !p.1||Ah x.vals (p.2:Int)==Ah y.vals (p.2:Int)
def EU(R:Nat)(old new:Block)(c:Cert)(i:Int)(next:List Int):Bool:=
  decide ((BA R old).effs=(Cl R old new (c.at' i)).effs)&&((!(old.fin==2)||Ah (BA R old).vals old.v==Ah (Cl R old new (c.at' i)).vals new.v)&&next.all fun k=>DU (BA R old) (Cl R old new (c.at' i)) (c.at' k))
theorem RX{first:Int}{l:List Tac}{w:VW}{k:Nat}{t:Tac}(h:l[k]?=some t):BQ first (l.take (k+1)) w=(BQ first (l.take k) w).step first t:=by
 unfold BQ;rw[AR h,List.foldl_append];rfl
theorem Nv{first:Int}{l:List Tac}{w:VW}{k:Nat}(h:l.length<=k):BQ first (l.take k) w=BQ first l w:=by
 rw[List.take_of_length_le h]
theorem Ll{first:Int}{R m:Nat}{l:List Tac}{w:VW}(h:VOk first R m w)(hl:∀t∈l,Pz t R):VOk first R (m+2*l.length) (BQ first l w):=by
 unfold BQ
 induction l generalizing w m with
 |nil=>exact h
 |cons t l ih=>
  have h1:=h.step t (fun hu=>(hl t Az).a (.inl hu));have h2:=ih h1 (fun u hu=>hl u (by simp[hu]));rw[List.length_cons,show m+2*(l.length+1)=m+2+2*l.length by omega];exact h2
theorem Nu{first:Int}{R m:Nat}{l:List Tac}{w:VW}(h:VOk first R m w)(hl:∀t∈l,Pz t R)(k:Nat):VOk first R (m+2*l.length) (BQ first (l.take k) w):=
 (Ll h (l:=l.take k) (fun t ht=>hl t (List.mem_of_mem_take ht))).mono Xc
theorem fU{R:Nat}(hR:R<=40000):VOk (2*R:Nat) R 0 ⟨[],GP R,[],0⟩ where
 f:=by omega
 k4:=fun k hk=>by simp at hk
 e6:=fun k hk=>by simp at hk
 kl:=Nat.le_refl _
 el:=Nat.le_refl _
 tl:=⟨Int.le_refl 0,by show(0:Int)<=0;decide⟩
 vl:=by simp[GP]
 v:=fun n hn=>by
  simp only[GP,List.mem_map,List.mem_range]at hn;obtain⟨v,hv,rfl⟩:=hn;show 0<=(v:Int)/\(v:Int)<((2*R:Nat):Int)+0;omega
theorem fT{R m:Nat}{w:VW}(hw:VOk (2*R:Nat) R m w)(row:List Bool):VOk (2*R:Nat) R m ⟨w.K,F1 R row,[],0⟩ where
 f:=hw.f
 k4:=hw.k4
 e6:=fun k hk=>by simp at hk
 kl:=hw.kl
 el:=Nat.zero_le _
 tl:=⟨Int.le_refl 0,by show(0:Int)<=m;omega⟩
 vl:=by simp[F1]
 v:=fun n hn=>by
  simp only[F1,List.mem_map,List.mem_range]at hn;obtain⟨v,hv,rfl⟩:=hn;show 0<=CO R row v/\CO R row v<((2*R:Nat):Int)+(w.K.length:Int);unfold CO
  cases (row[v]?).getD false<;>simp only[cond_true,cond_false]<;>omega
theorem QM{K:IntKind}{l:List Int}{i:Ae}(h:i.k.isAgg=true)(hs:i.size=l.length):D3 i (Ao K l)=some (.agg (Ao K l)):=by
 unfold D3;rw[h,hs];have e:(Ao K l).length=l.length:=by simp[Ao]
 rw[<-e,show Nat.ble (Ao K l).length (Ao K l).length=true by rw[Nat.ble_eq];exact Nat.le_refl _,List.take_length];rfl
theorem Uz{K:IntKind}{L:List (List Int)}{k:Nat}{x:List Int}(h:L[k]?=some x):(L.map (Ao K))[((k:Nat):Int).toNat]?=some (Ao K x):=by
 rw[Int.toNat_natCast,List.getElem?_map,h];rfl
theorem OJ{α:Type}{l l':List α}{k:Nat}{x:α}(h:l.take k=l'.take k)(hx:l[k]?=some x)(hy:l'[k]?=some x):l.take (k+1)=l'.take (k+1):=by
 rw[AR hx,AR hy,h]
theorem TC{cs cs':List AV}(hl:cs'.length=cs.length)(h:∀(j:Nat) (x y:AV),cs[j]?=some x->cs'[j]?=some y->x=y\/(x=.nil/\y=.lst true [])):
 ∀(i:Nat) (ds ds':List AV),[cs][i]?=some ds->[cs'][i]?=some ds'->ds'.length=ds.length/\∀(j:Nat) (x y:AV),ds[j]?=some x->ds'[j]?=some y->(x.cell1=true->y.cell1=true)/\∀H ι v,Rel H ι x v->Rel H ι y v:=by
 intro i ds ds' h1 h2
 cases i with
 |succ i=>simp at h1
 |zero=>
  simp at h1 h2;subst h1;subst h2;refine⟨hl,fun j x y hx hy=>?_⟩;rcases h j x y hx hy with rfl|⟨rfl,rfl⟩
  . exact⟨id,fun _ _ _=>id⟩
  . exact⟨fun _=>rfl,fun _ _ _=>cE⟩
theorem bj{a b:AV}:∀(i:Nat) (ds ds':List AV),[[a,b,AV.nil]][i]?=some ds->[[a,b,AV.lst true []]][i]?=some ds'->ds'.length=ds.length/\∀(j:Nat) (x y:AV),ds[j]?=some x->ds'[j]?=some y->(x.cell1=true->y.cell1=true)/\∀H ι v,Rel H ι x v->Rel H ι y v:=
 TC rfl fun j x y hx hy=>by
  match j with
  |0=>simp at hx hy;exact .inl (hx.symm.trans hy)
  |1=>simp at hx hy;exact .inl (hx.symm.trans hy)
  |2=>simp at hx hy;exact .inr ⟨hx.symm,hy.symm⟩
  |j+3=>simp at hx
theorem TB{a b d:AV}:∀(i:Nat) (ds ds':List AV),[[a,b,AV.nil,d]][i]?=some ds->[[a,b,AV.lst true [],d]][i]?=some ds'->ds'.length=ds.length/\∀(j:Nat) (x y:AV),ds[j]?=some x->ds'[j]?=some y->(x.cell1=true->y.cell1=true)/\∀H ι v,Rel H ι x v->Rel H ι y v:=
 TC rfl fun j x y hx hy=>by
  match j with
  |0=>simp at hx hy;exact .inl (hx.symm.trans hy)
  |1=>simp at hx hy;exact .inl (hx.symm.trans hy)
  |2=>simp at hx hy;exact .inr ⟨hx.symm,hy.symm⟩
  |3=>simp at hx hy;exact .inl (hx.symm.trans hy)
  |j+4=>simp at hx
section
variable {R k : Nat}
theorem U9(l:List Int)(k:Nat)(v:Int):(A8 l).set k [AV.int .i64 v]=A8 (l.set k v):=by unfold A8;rw[List.map_set]
theorem Po(f:Nat->Int)(h:k<R):some (Fe ((A8 (B0 R k f)).set ((k:Nat):Int).toNat [AV.int .i64 (f k)]))=some (Fe (A8 (B0 R (k+1) f))):=by
 rw[Int.toNat_natCast,U9,Wm f h]
theorem ZI(h:k<R):some (Fe ((A8 (B0 R k (fun v:Nat=>(v:Int)))).set ((k:Nat):Int).toNat [AV.int .i64 (k:Int)]))=some (Fe (A8 (B0 R (k+1) (fun v:Nat=>(v:Int))))):=Po _ h
theorem ZH{row:List Bool}(h:k<R)(hb:row[k]?=some true):some (Fe ((A8 (B0 R k (CO R row))).set ((k:Nat):Int).toNat [AV.int .i64 (k:Int)]))=some (Fe (A8 (B0 R (k+1) (CO R row)))):=by
 have e:(k:Int)=CO R row k:=by unfold CO;rw[hb];rfl
 have:=Po (CO R row) h;rw[<-e]at this;exact this
theorem Wl{row:List Bool}(h:k<R)(hb:row[k]?=some false):some (Fe (((A8 (B0 R k (CO R row))).set ((k:Nat):Int).toNat [AV.int .i64 (k:Int)]).set ((k:Nat):Int).toNat [AV.int .i64 ((R+k:Nat):Int)]))=some (Fe (A8 (B0 R (k+1) (CO R row)))):=by
 have e:((R+k:Nat):Int)=CO R row k:=by unfold CO;rw[hb];rfl
 have:=Po (CO R row) h;rw[<-e]at this;rw[List.set_set];exact this
theorem dH{v:Nat}(f:Nat->Int)(a x y:AV)(h:k<R):some (AObj.row false 4 [[a,DR v (A8 (B0 R k f)),x,y]])=some (AObj.row false 4 [[a,DR v (A8 (B0 R (k+1) f)),x,y]]):=by
 rw[OG (es:=A8 (B0 R k f)) (es':=A8 (B0 R (k+1) f)) (by rw[CM,CM,Ds f h,Ds f (Nat.le_of_lt h)])]
theorem uL:some (Fe (A8 (B0 R R (fun v:Nat=>(v:Int)))))=some (Fe (A8 (GP R))):=by rw[HO];rfl
theorem uK(row:List Bool):some (Fe (A8 (B0 R R (CO R row))))=some (Fe (A8 (F1 R row))):=by rw[HO];rfl
theorem jz{v:Nat}(a x y:AV):some (AObj.row false 4 [[a,DR v (A8 (B0 R R (fun v:Nat=>(v:Int)))),x,y]])=some (AObj.row false 4 [[a,DR v (A8 (GP R)),x,y]]):=by rw[HO];rfl
theorem jy{v:Nat}(row:List Bool)(a x y:AV):some (AObj.row false 4 [[a,DR v (A8 (B0 R R (CO R row))),x,y]])=some (AObj.row false 4 [[a,DR v (A8 (F1 R row)),x,y]]):=by rw[HO];rfl
theorem jO(f:Nat->Int):some (Fe (List.replicate R [AV.int .i64 0]))=some (Fe (A8 (B0 R 0 f))):=by rw[Ln]
theorem jM{v:Nat}(f:Nat->Int)(a x y:AV):some (AObj.row false 4 [[a,DR v (List.replicate R [AV.int .i64 0]),x,y]])=some (AObj.row false 4 [[a,DR v (A8 (B0 R 0 f)),x,y]]):=by rw[Ln]
end
theorem Pv{a b:Int}(h:(a !=b)=true):¬a=b:=by simpa using h
theorem Gx{a b:Int}(h:(a !=b)=false):a=b:=by simpa using h
theorem cI{p:Prop} [Decidable p](h:(!decide p)=true):¬p:=by simpa using h
theorem YE{p:Prop} [Decidable p](h:(!decide p)=false):p:=by simpa using h
def FK(x y:VW)(row:List Bool)(k:Nat):Prop:=∀j,j<k->∀b,row[j]?=some b->b=true->Ah x.vals (j:Int)=Ah y.vals (j:Int)
theorem vagree_zero{x y:VW}{row:List Bool}:FK x y row 0:=fun j h=>absurd h (Nat.not_lt_zero _)
theorem PU{x y:VW}{row:List Bool}{k:Nat}{must:Bool}(h:FK x y row k)(hm:row[k]?=some must)(hk:must=true->Ah x.vals (k:Int)=Ah y.vals (k:Int)):FK x y row (k+1):=fun j hj b hb hbt=>by
 by_cases hjk:j=k
 . subst hjk;rw[hm]at hb;exact hk ((Option.some.inj hb).trans hbt)
 . exact h j Ab b hb hbt
theorem vagree_iff{x y:VW}{row:List Bool}:DU x y row=true↔ ∀(j:Nat) (b:Bool),row[j]?=some b->b=true->Ah x.vals (j:Int)=Ah y.vals (j:Int):=by
 unfold DU;rw[List.all_eq_true];constructor
 . intro h j b hb hbt;have:=h (b,j) (List.mem_of_getElem? (Bl hb));subst hbt;simpa using this
 . rintro h ⟨b,j⟩ hp
   obtain⟨i,hi⟩:=List.mem_iff_getElem?.1 hp;rw[List.getElem?_zipIdx,Option.map_eq_some_iff]at hi;obtain⟨b',hb',e⟩:=hi;simp only[Nat.zero_add,Prod.mk.injEq]at e;obtain⟨rfl,rfl⟩:=e
   cases b' with
   |false=>rfl
   |true=>simpa using h _ true hb' rfl
theorem R6{x y:VW}{row:List Bool}{k:Nat}(hk:row.length<=k)(h:FK x y row k):DU x y row=true:=
 vagree_iff.2 fun j b hb hbt=>h j (by have:=(List.getElem?_eq_some_iff.1 hb).1;omega) b hb hbt
theorem Va{x y:VW}{row:List Bool}{k:Nat}{must:Bool}(hm:row[k]?=some must)(ht:must=true)(hne:¬Ah x.vals (k:Int)=Ah y.vals (k:Int)):DU x y row=false:=by
 rw[Bool.eq_false_iff];intro h;exact hne (vagree_iff.1 h k must hm ht)
section
variable {R : Nat} {old new : Block} {c : Cert} {i : Int} {next : List Int}
theorem U6(h:¬(BA R old).effs=(Cl R old new (c.at' i)).effs):EU R old new c i next=false:=by
 unfold EU;rw[decide_eq_false h];rfl
theorem U5(hf:old.fin=2)(h:¬Ah (BA R old).vals old.v=Ah (Cl R old new (c.at' i)).vals new.v):EU R old new c i next=false:=by
 unfold EU;rw[hf,show(Ah (BA R old).vals old.v==Ah (Cl R old new (c.at' i)).vals new.v)=false by simpa using h]
 simp
theorem U4{j:Nat}{nk:Int}(hj:next[j]?=some nk)(h:DU (BA R old) (Cl R old new (c.at' i)) (c.at' nk)=false):EU R old new c i next=false:=by
 unfold EU;rw[BJ hj (p:=fun k=>DU (BA R old) (Cl R old new (c.at' i)) (c.at' k)) h,Bool.and_false,Bool.and_false]
theorem U3(h1:(BA R old).effs=(Cl R old new (c.at' i)).effs)(h2:old.fin=2->Ah (BA R old).vals old.v=Ah (Cl R old new (c.at' i)).vals new.v)(h3:(next.all fun k=>DU (BA R old) (Cl R old new (c.at' i)) (c.at' k))=true):EU R old new c i next=true:=by
 unfold EU;rw[decide_eq_true h1,h3]
 by_cases hf:old.fin=2
 . rw[h2 hf];simp
 . have:(old.fin==2)=false:=by simpa using hf
   rw[this];rfl
end
def G6(p:List Int):List AV:=[Bt p]
def Block.nexts(b:Block):List Int:=bif b.fin==1 then [b.to]else bif b.fin==2 then [b.to,b.els]else []
def BFunc.nexts(f:BFunc):List (List Int):=f.blocks.map Block.nexts
theorem BU(f:BFunc):f.nexts.length=f.blocks.length:=by simp[BFunc.nexts]
theorem NX{f:BFunc}{k:Nat}{x:Block}(h:f.blocks[k]?=some x):f.nexts[k]?=some x.nexts:=by simp[BFunc.nexts,h]
theorem Wk{α:Type}{F:List α}{f:α->List AV}{z:List AV}{k n:Nat}{x:α}(hF:F.length=n)(hx:F[k]?=some x)(hz:f x=z):((F.take k).map f++List.replicate (n-k) z)=(F.take (k+1)).map f++List.replicate (n-(k+1)) z:=by
 have hk:k<n:=by rw[<-hF];exact(List.getElem?_eq_some_iff.1 hx).1
 rw[AR hx,List.map_append,List.append_assoc];congr 1;obtain⟨m,hm⟩:∃m,n-k=m+1:=⟨n-k-1,by omega⟩
 grind
structure DS where
  been:List Bool
  way:List (Int×Int)
def tW(next:List (List Int))(b:Int):List Int:=(next[b.toNat]?).getD []
theorem MI{α:Type}{l:List α}{n:Nat}(h:n<=l.length):(l.take n).dropLast=l.take (n-1):=by
 rw[List.dropLast_eq_take,List.take_take,List.length_take];congr 1;omega
structure DS.ok(next:List (List Int))(s:DS):Prop where
  len:s.been.length=next.length
  way:∀p∈s.way,0<=p.1/\p.1<next.length/\0<=p.2/\p.2<=(tW next p.1).length
def Gv(b:Int):Tac:=⟨10,0,0,0,0,b,0,0⟩
def Tac.callOk(t:Tac):Bool:=t.op !=10||(decide (0<=t.base)&&t.same (Gv t.base))
def DH(l:List Tac):List Tac:=l.filter fun t=>t.op !=10
def Block.bare(x:Block):Block:={x with ins:=DH x.ins}
def BFunc.bare(f:BFunc):BFunc:=⟨f.regs,f.blocks.map Block.bare⟩
def BFunc.stands(f:BFunc):Bool:=f.blocks.all (fun x=>x.ins.all Tac.callOk)&&(Blocks.mk 1048576 [f.bare]).right
def Di(x y:Block):Bool:=x.fin==y.fin&&(x.to==y.to&&x.els==y.els)
def vshaped(old new:BFunc):Bool:=decide (old.regs=new.regs)&&(decide (old.blocks.length=new.blocks.length)&&(old.stands&&(new.stands&&(old.blocks.zip new.blocks).all fun p=>Di p.1 p.2)))
def IH(old new:BFunc)(c:Cert):Bool:=(old.blocks.zip new.blocks).zipIdx.all fun p=>EU old.regs.toNat p.1.1 p.1.2 c (p.2:Int) p.1.1.nexts
def Cg(old new:BFunc)(c:Cert):Bool:=vshaped old new&&(decide (c.same.length=old.blocks.length)&&((c.same.all fun r=>decide ((r.length:Int)=old.regs))&&IH old new c))
theorem Ghost.freezeAll0{n:Nat}{e:Ar}{h:Aa}(t b:Nat){m sz:Nat}{es:List (List AV)}(ht:e t=some (.ref b m 0 m))(hb:h b=some (.row true sz es))(hm:m=es.length):
 Ghost ⟨n,e,h⟩ ⟨n,Ad e t (.lst false es),hrm h b⟩:=by
 have:=Ghost.freeze (n:=n) t b ht hb hm;rwa[List.drop_zero,List.take_of_length_le (Nat.le_of_eq hm.symm)]at this
theorem FT{b:Bool}(h:(!b)=false):b=true:=by simpa using h
theorem EZ{b:Bool}(h:(!b)=true):b=false:=by simpa using h
theorem WB{t:Tac}(h:(t.op !=10)=true):t.callOk=true:=by unfold Tac.callOk;rw[h];rfl
theorem Ro{t:Tac}(h:(t.op !=10)=false)(hb:decide (t.base<0)=true):t.callOk=false:=by
 grind[Tac.callOk]
theorem Rn{t:Tac}(h:(t.op !=10)=false)(hb:t.same (Gv t.base)=false):t.callOk=false:=by
 grind[Tac.callOk,Gv]
theorem Tf{t:Tac}(h:(t.op !=10)=false)(hb:decide (t.base<0)=false)(h2:t.same (Gv t.base)=true):t.callOk=true:=by
 grind[Tac.callOk,Gv]
theorem SB{l:List Tac}{k:Nat}{t:Tac}(hx:l[k]?=some t)(h:(t.op !=10)=true):DH (l.take (k+1))=DH (l.take k)++[t]:=by
 grind[DH,AR]
theorem VG{l:List Tac}{k:Nat}{t:Tac}(hx:l[k]?=some t)(h:(t.op !=10)=false):DH (l.take (k+1))=DH (l.take k):=by
 unfold DH;rw[AR hx,List.filter_append];simp[h]
theorem SC(l:List Tac):(DH l).length<=l.length:=List.length_filter_le _ _
theorem Kv(l:List Tac)(k:Nat):(DH (l.take k)).length<=l.length:=Nat.le_trans (SC _) Xc
theorem Sf{f:BFunc}{k j:Nat}{x:Block}{t:Tac}(hx:f.blocks[k]?=some x)(ht:x.ins[j]?=some t)(h:t.callOk=false):f.stands=false:=by
 grind[BFunc.stands,BJ,Block,Tac.callOk]
theorem Sg{f:BFunc}(h:f.blocks.all (fun x=>x.ins.all Tac.callOk)=true):f.stands=(Blocks.mk 1048576 [f.bare]).right:=by
 unfold BFunc.stands;rw[h];rfl
theorem ag{f:BFunc}{k:Nat}{x:Block}(h:f.blocks[k]?=some x):(f.blocks.map Block.bare)[k]?=some x.bare:=by simp[h]
structure MW(f:BFunc):Prop where
  r0:0<=f.regs
  r1:f.regs<=4000
  ne:f.blocks.length≠0
  tacs:∀x∈f.blocks,∀t∈x.ins,Hf t.n->Pz t f.regs.toNat
  fin:∀x∈f.blocks,x.fin=1\/x.fin=2\/x.fin=3
  v:∀x∈f.blocks,x.fin=2->0<=x.v/\x.v<f.regs
  next:∀x∈f.blocks,∀k∈x.nexts,0<=k/\k<f.blocks.length
theorem Dl{f:BFunc}(h:f.stands=true):MW f:=by
 unfold BFunc.stands at h;rw[Bool.and_eq_true]at h;obtain⟨h1,h2⟩:=h;simp only[Blocks.right,Bool.and_eq_true,decide_eq_true_eq,List.all_eq_true]at h2;have h3:=h2.2.2.2 (f.bare,0) Az;simp only[BFunc.one,Bool.and_eq_true,decide_eq_true_eq,Bool.not_eq_true',List.isEmpty_eq_false_iff,List.all_eq_true,BFunc.bare,List.length_map]at h3;obtain⟨a1,a2,a3,a4⟩:=h3;have hb:∀x∈f.blocks,x.ends f.blocks.length f.regs=true/\∀t∈DH x.ins,t.fits 0 f.regs 1048576=true:=fun x hx=>by
  have:=a4 x.bare (List.mem_map.2 ⟨x,hx,rfl⟩);unfold Block.ok at this;rw[Bool.and_eq_true,List.all_eq_true]at this;exact this
 have hend:∀x∈f.blocks,(x.fin=1/\AX x.to f.blocks.length=true)\/(x.fin=2/\AX x.to f.blocks.length=true/\AX x.els f.blocks.length=true/\AX x.v f.regs=true)\/x.fin=3:=fun x hx=>by
  have he:=(hb x hx).1;unfold Block.ends at he
  cases e1:x.fin==1 with
  |true=>rw[e1]at he;simp only[cond_true,Bool.and_eq_true]at he;exact .inl ⟨by simpa using e1,he.1⟩
  |false=>
   cases e2:x.fin==2 with
   |true=>rw[e1,e2]at he;simp only[cond_true,cond_false,Bool.and_eq_true]at he;exact .inr (.inl ⟨by simpa using e2,he.1,he.2.1,he.2.2⟩)
   |false=>rw[e1,e2]at he;simp only[cond_false,Bool.and_eq_true,beq_iff_eq]at he;exact .inr (.inr he.1)
 have hw:∀{i n:Int},AX i n=true->0<=i/\i<n:=fun {i n} h=>by simpa[AX]using h
 refine⟨of_decide_eq_true a1,of_decide_eq_true a2,fun e=>a3 (by simp[List.eq_nil_of_length_eq_zero e]),fun x hx t ht hn=>?_,fun x hx=>?_,fun x hx hf=>?_,fun x hx k hk=>?_⟩
 . by_cases h10:t.op=10
   . exact⟨(fun h=>by rw[h10]at h;cases h),(fun h=>by rw[h10]at h;rcases h with h|h<;>cases h),(fun h=>by rw[h10]at h;cases h),hn⟩
   . have hf:=(hb x hx).2 t (List.mem_filter.2 ⟨ht,by simpa using h10⟩);have hi:=Ls hf;exact⟨hi.d,hi.a,hi.b,hn⟩
 . rcases hend x hx with h|h|h
   . exact .inl h.1
   . exact .inr (.inl h.1)
   . exact .inr (.inr h)
 . rcases hend x hx with h|h|h
   . exact absurd (hf.symm.trans h.1) A7
   . exact hw h.2.2.2
   . exact absurd (hf.symm.trans h) A7
 . rcases hend x hx with h|h|h
   . rw[Block.nexts,show(x.fin==1)=true by simp[h.1]]at hk;simp only[cond_true,List.mem_singleton]at hk;rw[hk];exact hw h.2
   . rw[Block.nexts,show(x.fin==1)=false by simp[h.1],show(x.fin==2)=true by simp[h.1]]at hk;simp only[cond_true,cond_false,List.mem_cons,List.not_mem_nil,or_false]at hk;rcases hk with rfl|rfl
     . exact hw h.2.1
     . exact hw h.2.2.1
   . rw[Block.nexts,show(x.fin==1)=false by simp[h],show(x.fin==2)=false by simp[h]]at hk;simp at hk
theorem QI(x:Block):x.nexts.length<=100000:=by
 grind[Block.nexts]
theorem JG{α β:Type}{l:List α}{m:List β}{k:Nat}{x:α}{y:β}(hx:l[k]?=some x)(hy:m[k]?=some y):(l.zip m)[k]?=some (x,y):=by
 grind
theorem OC{old new:BFunc}(h:(old.regs !=new.regs)=true):vshaped old new=false:=by
 grind[vshaped]
theorem PP{old new:BFunc}(h:¬old.blocks.length=new.blocks.length):vshaped old new=false:=by
 grind[vshaped]
theorem RV{old new:BFunc}(h:old.stands=false):vshaped old new=false:=by unfold vshaped;rw[h];simp
theorem RU{old new:BFunc}(h:new.stands=false):vshaped old new=false:=by unfold vshaped;rw[h];simp
theorem JI{old new:BFunc}{k:Nat}{x y:Block}(hx:old.blocks[k]?=some x)(hy:new.blocks[k]?=some y)(h:Di x y=false):vshaped old new=false:=by
 unfold vshaped;rw[BJ (JG hx hy) (p:=fun p:Block×Block=>Di p.1 p.2) h];simp
theorem PO{old new:BFunc}(h1:old.regs=new.regs)(h2:old.blocks.length=new.blocks.length)(h3:old.stands=true)(h4:new.stands=true)(h5:((old.blocks.zip new.blocks).all fun p=>Di p.1 p.2)=true):vshaped old new=true:=by
 grind[vshaped,Di]
theorem OD{old new:BFunc}(h:((((old.blocks.map Block.cells).length:Nat):Int) !=(((new.blocks.map Block.cells).length:Nat):Int))=true):vshaped old new=false:=
 PP (fun e=>by rw[List.length_map,List.length_map,e]at h;simp at h)
theorem cO{old new:BFunc}(h:((((old.blocks.map Block.cells).length:Nat):Int) !=(((new.blocks.map Block.cells).length:Nat):Int))=false):old.blocks.length=new.blocks.length:=by
 grind
theorem bw{x y:Block}(h:(x.fin !=y.fin)=true):Di x y=false:=by
 grind[Di]
theorem bv{x y:Block}(h:(x.to !=y.to)=true):Di x y=false:=by
 grind[Di]
theorem bx{x y:Block}(h:(x.els !=y.els)=true):Di x y=false:=by
 grind[Di]
theorem bu{x y:Block}(h1:(x.fin !=y.fin)=false)(h2:(x.to !=y.to)=false)(h3:(x.els !=y.els)=false):Di x y=true:=by
 unfold Di;rw[Gx h1,Gx h2,Gx h3];simp
theorem R3{old new:BFunc}{c:Cert}(h:vshaped old new=false):Cg old new c=false:=by unfold Cg;rw[h];rfl
theorem R2{old new:BFunc}{c:Cert}(h:((((c.same.map fun r=>[Gw r]).length:Nat):Int) !=(((old.blocks.map Block.cells).length:Nat):Int))=true):Cg old new c=false:=by
 grind[Cg,List.length_map,Gw,Block.cells]
theorem Z0{old:BFunc}{c:Cert}(h:((((c.same.map fun r=>[Gw r]).length:Nat):Int) !=(((old.blocks.map Block.cells).length:Nat):Int))=false):c.same.length=old.blocks.length:=by
 grind
theorem R1{old new:BFunc}{c:Cert}{k:Nat}{r:List Bool}(hr:c.same[k]?=some r)(h:¬(r.length:Int)=old.regs):Cg old new c=false:=by
 grind[Cg,BJ]
theorem RZ{old new:BFunc}{c:Cert}{k:Nat}{x y:Block}(hx:old.blocks[k]?=some x)(hy:new.blocks[k]?=some y)(h:EU old.regs.toNat x y c (k:Int) x.nexts=false):Cg old new c=false:=by
 unfold Cg IH;rw[BJ (Bl (JG hx hy)) (p:=fun p:(Block×Block)×Nat=>EU old.regs.toNat p.1.1 p.1.2 c (p.2:Int) p.1.1.nexts) h]
 simp
theorem RY{old new:BFunc}{c:Cert}(h1:vshaped old new=true)(h2:c.same.length=old.blocks.length)(h3:(c.same.all fun r=>decide ((r.length:Int)=old.regs))=true)(h4:IH old new c=true):Cg old new c=true:=by
 grind[Cg,vshaped,IH]
structure j9(old new:BFunc):Prop where
  regs:old.regs=new.regs
  len:old.blocks.length=new.blocks.length
  so:old.stands=true
  sn:new.stands=true
  b:∀(k:Nat) (x y:Block),old.blocks[k]?=some x->new.blocks[k]?=some y->x.fin=y.fin/\x.to=y.to/\x.els=y.els
theorem DT{old new:BFunc}(h:vshaped old new=true):j9 old new:=by
 simp only[vshaped,Bool.and_eq_true,decide_eq_true_eq,List.all_eq_true]at h;refine⟨h.1,h.2.1,h.2.2.1,h.2.2.2.1,fun k x y hx hy=>?_⟩;have:=h.2.2.2.2 (x,y) (List.mem_of_getElem? (JG hx hy))
 grind[Di,vshaped]
section
variable {P : Program} {T : Nat -> Option Ae} {o : Oper} {e : Ar} {h : Aa}
theorem LW(hT:Bc P T){w:World}:∀{fl:List Field},(∀f∈fl,∃i',T f.type=some i')->
 ∃l:List (Nat×Nat),(fl.mapM fun f=>(do pure (f.offset,<-sizeOf f.type):Sem (Nat×Nat))).run P w=.ok l w/\∀(i off t:Nat),(fl.map fun f=>(f.offset,f.type))[i]?=some (off,t)->∃i',T t=some i'/\l[i]?=some (off,i'.size)
 | [],_=>⟨[],by simp,fun i off t h=>by simp at h⟩
 |f::fl,hk=>by
  obtain⟨l,h1,h2⟩:=LW hT (w:=w) (fl:=fl) (fun g hg=>hk g (by simp[hg]));obtain⟨i',hi'⟩:=hk f Az;exact kV
theorem QB{H:Aq}{ι:AL}{x:AV}{v:Value}(h:Rel H ι x v)(hc:x.cell1=true):∃u,v.cells= #[u]/\Rel H ι x u:=by
 obtain⟨c1,c2⟩:=Ea h;have hx:x.cells=[x]:=by cases x<;>first|rfl|cases hc
 rw[hx]at c1 c2;have hs:v.cells.size=1:=by simpa using c1.symm
 obtain⟨u,hu⟩:=A4 (c:=v.cells) (j:=0) Ab;refine⟨u,?_,c2 0 x u rfl hu⟩;apply Array.ext
 . simp[hs]
 . intro j h1 h2;have:j=0:=by omega
   subst this;rw[Array.getElem?_eq_getElem h1]at hu;simpa using hu
theorem X0(hT:Bc P T){t:TypeId}{parts:Array (Nat×Operand)}{i i0 i1 i2:Ae}{x y:AV}{t0 t1 t2:Nat}{z0 z1:Value}(ho:o.op=.build t parts)(hx:A6 e parts.toList=some [(0,x),(1,y)])(hi:T t=some i)(hk:i.k=.struct [(0,t0),(1,t1),(2,t2)])
 (h0:T t0=some i0) (h1:T t1=some i1) (h2:T t2=some i2) (s0:i0.size=1) (s1:i1.size=1) (hz:(P.info? t).bind (·.zero)=some (.agg #[z0,z1,.slice none 0 0])) (hx1:x.cell1=true) (hy1:y.cell1=true):QLoc P o e h [] (.agg [x,y,.nil]):=by
 intro H ι a w s hs g1 g2;have hx':A6 s.env parts.toList=some [(0,x),(1,y)]:=by
  exact WT
 obtain⟨l1,l2⟩:=Ci hs hx';obtain⟨info,d,e1,e2,e3,e4,e5,e6⟩:=Af (hT _ _ hi);obtain⟨A,rfl,hA,hzz⟩:=Dk (P:=P) (d:=d) (e3▸hk);have hzv:info.zero=some (.agg #[z0,z1,.slice none 0 0]):=by rw[e1]at hz;exact hz
 obtain⟨l,k1,k2⟩:=LW hT (w:=w) (fl:=A.toList) (fun f hf=>by
  have hm:(f.offset,f.type)∈A.toList.map fun f=>(f.offset,f.type):=List.mem_map.2 ⟨f,hf,rfl⟩
  rw[<-hA]at hm;simp only[List.mem_cons,Prod.mk.injEq,List.not_mem_nil,or_false]at hm;rcases hm with⟨_,q⟩|⟨_,q⟩|⟨_,q⟩<;>rw[q]
  . exact⟨_,h0⟩
  . exact⟨_,h1⟩
  . exact⟨_,h2⟩)
 have hpl:(A.mapM fun f=>(do pure (f.offset,<-sizeOf f.type):Sem (Nat×Nat))).run P w=.ok l.toArray w:=by
  rw[Array.mapM_eq_mapM_toList];simp only[Sem.run_map,k1];rfl
 obtain⟨j0,q0,p0⟩:=k2 0 0 t0 (by rw[<-hA];rfl);obtain⟨j1,q1,p1⟩:=k2 1 1 t1 (by rw[<-hA];rfl);rw[h0]at q0;cases q0;rw[h1]at q1;cases q1;rw[s0]at p0;rw[s1]at p1;generalize hpp:parts.toList=pl at l1 l2 hx'
 match pl,l1 with
 | [(n0,x0),(n1,x1)],_=>
  obtain⟨a1,a2⟩:=l2 0 (0,x) (n0,a.eval x0) rfl rfl;obtain⟨b1,b2⟩:=l2 1 (1,y) (n1,a.eval x1) rfl rfl;simp only at a1 a2 b1 b2;subst a1;subst b1;obtain⟨u0,c0,d0⟩:=QB a2 hx1;obtain⟨u1,c1,d1⟩:=QB b2 hy1;have hfill:Instr.fill (l.toArray[·]?) #[z0,z1,.slice none 0 0] [(0,a.eval x0),(1,a.eval x1)]=some #[u0,u1,.slice none 0 0]:=by
   simp[Instr.fill,p0,p1,c0,c1]
  have hparts:(parts.map fun(i,x)=>(i,a.eval x)).toList=[(0,a.eval x0),(1,a.eval x1)]:=by simp[hpp]
  refine⟨.agg #[u0,u1,.slice none 0 0],.agg _ _ _ rfl (fun j z v hz hv=>?_),?_⟩
  . match j,hz,hv with
    |0,hz,hv=>simp at hz hv;subst hz;subst hv;exact d0
    |1,hz,hv=>simp at hz hv;subst hz;subst hv;exact d1
    |2,hz,hv=>simp at hz hv;subst hz;subst hv;exact .nil _
    |j+3,hz,hv=>simp at hz
  . simp only[execOp,ho,Instr.build,zeroValue,typeInfo,Sem.run_bind,run_program,Result.andThen_ok,e1,hzv,Sem.run_pure,Aj e2,hpl,hparts,Value.cells,hfill]
theorem Vt(hT:Bc P T){t:TypeId}{x y:Operand}{b:Nat}{es es':List (List AV)}{k:IntKind}{n:Int}{i j:Ae}{u:Nat}(ho:o.op=.indexAddr t x y)(hx:look e x=some (DR b es'))(hy:look e y=some (.int k n))
 (hi:T t=some i) (hk:i.k=.slice u) (hj:T u=some j) (hb:h b=some (Fe es)) (hsz:1=j.size) (hl:es.length=es'.length) (h0:0<=n) (hn:n<es.length):QLoc P o e h [b] (.ptr b es.length n.toNat 0):=
 Bh hT ho (by rw[hx,OG hl]) hy hi hk hj hb hsz h0 hn
end
structure RVal where
  kind:Int
  op:Int
  a:Int
  b:Int
  name:Int
  side:Int
  base:Int
  time:Int
  n:Int
  deriving DecidableEq
def RVal.same(x y:RVal):Bool:=x.kind==y.kind&&(x.op==y.op&&(x.a==y.a&&(x.b==y.b&&(x.name==y.name&&(x.side==y.side&&(x.base==y.base&&(x.time==y.time&&(x.n==y.n&&true))))))))
theorem RVal.same_iff(x y:RVal):x.same y=true↔x=y:=by
 obtain⟨a1,a2,a3,a4,a5,a6,a7,a8,a9⟩:=x;obtain⟨b1,b2,b3,b4,b5,b6,b7,b8,b9⟩:=y
 grind[RVal.same]
structure REff where
  op:Int
  k:Int
  base:Int
  size:Int
  a:Int
  b:Int
  deriving DecidableEq
def ridx(v:RVal):List RVal->Option Nat
  | []=>none
  |x::r=>bif x.same v then some 0 else(ridx v r).map (· +1)
def Gd(L:List RVal)(v:RVal):Int×List RVal:=match ridx v L with
  |some i=>((i:Int),L)
  |none=>((L.length:Int),L++[v])
theorem TZ{v:RVal}:∀{L:List RVal} {i:Nat},ridx v L=some i->i<L.length/\L[i]?=some v
 | [],i,h=>by cases h
 |x::r,i,h=>by
  unfold ridx at h
  cases hx:x.same v with
  |true=>rw[hx]at h;cases h;exact⟨by simp,by rw[(RVal.same_iff x v).1 hx];rfl⟩
  |false=>
   rw[hx]at h;simp only[cond_false,Option.map_eq_some_iff]at h;obtain⟨j,hj,rfl⟩:=h;obtain⟨h1,h2⟩:=TZ hj;exact⟨by simp;omega,by simpa using h2⟩
theorem XO{v:RVal}{L:List RVal}(h:ridx v L=none):Gd L v=((L.length:Int),L++[v]):=by unfold Gd;rw[h]
theorem XN{v:RVal}{L:List RVal}{i:Nat}(h:ridx v L=some i):Gd L v=((i:Int),L):=by unfold Gd;rw[h]
def iA(L:List RVal)(i:Int):RVal:=(L[i.toNat]?).getD ⟨0,0,0,0,0,0,0,0,0⟩
def Ey(L:List RVal)(i:Int):Int×Bool:=((iA L i).n,(iA L i).kind==1)
structure RW where
  L:List RVal
  regs:List Int
  out:List REff
  time:Int
def RW.put(w:RW)(z:Int)(p:Int×List RVal):RW:={w with L:=p.2,regs:=Bi w.regs z p.1}
def RW.eff(w:RW)(e:REff):RW:={w with out:=w.out++[e]}
def RW.tick(w:RW):RW:={w with time:=w.time+1}
def LA(w:RW)(t:Tac):Bool:=(t.k==7||t.k==8)&&(!(Ey w.L (Ah w.regs t.b)).2||(Ey w.L (Ah w.regs t.b)).1==0)
def RW.div(w:RW)(t:Tac):RW:=bif LA w t then w.eff ⟨t.op,t.k,0,0,Ah w.regs t.a,Ah w.regs t.b⟩else w
def LG(w:RW)(t:Tac):Bool:=(Ey w.L (Ah w.regs t.a)).2&&((Ey w.L (Ah w.regs t.b)).2&& !LA w t)
def HD(w:RW)(t:Tac):RVal:=bif LG w t then⟨1,0,0,0,0,0,0,0,(B1 t.k (Ey w.L (Ah w.regs t.a)).1 (Ey w.L (Ah w.regs t.b)).1).1⟩else⟨3,t.k,Ah w.regs t.a,Ah w.regs t.b,0,0,0,0,0⟩
def RW.bin(w:RW)(t:Tac):RW:=(w.div t).put t.d (Gd w.L (HD w t))
def NJ(n:Nat):RVal:=⟨2,0,0,0,(n:Int),2,0,0,0⟩
def RW.get(w:RW)(t:Tac)(e:REff):RW:=(w.eff e).put t.d (Gd w.L (NJ w.out.length))
def RW.step(w:RW)(t:Tac):RW:=
  bif t.op==1 then w.put t.d (Gd w.L ⟨1,0,0,0,0,0,0,0,t.n⟩)
  else bif t.op==2 then {w with regs:=Bi w.regs t.d (Ah w.regs t.a)}
  else bif t.op==3 then w.bin t
  else bif t.op==4 then w.put t.d (Gd w.L ⟨4,0,0,0,0,0,t.base,w.time,0⟩)
  else bif t.op==5 then(w.eff ⟨t.op,0,t.base,0,Ah w.regs t.a,0⟩).tick
  else bif t.op==6 then w.get t ⟨t.op,0,t.base,t.size,Ah w.regs t.a,0⟩
  else bif t.op==7 then(w.eff ⟨t.op,0,t.base,t.size,Ah w.regs t.a,Ah w.regs t.b⟩).tick
  else bif t.op==8 then w.get t ⟨t.op,0,0,0,0,0⟩
  else bif t.op==9 then w.eff ⟨t.op,0,0,0,Ah w.regs t.a,0⟩
  else(w.eff ⟨t.op,0,t.base,0,0,0⟩).tick
theorem iV(w:RW)(t:Tac):(w.div t).L=w.L:=by unfold RW.div;cases LA w t<;>rfl
section
variable {P : Program} {T : Nat -> Option Ae} {o : Oper} {e : Ar} {h : Aa}
end
theorem Vq{w:RW}{t:Tac}(h:LG w t=true):HD w t=⟨1,0,0,0,0,0,0,0,(B1 t.k (Ey w.L (Ah w.regs t.a)).1 (Ey w.L (Ah w.regs t.b)).1).1⟩:=by unfold HD;rw[h];rfl
theorem JT{w:RW}{t:Tac}(h:LG w t=false):HD w t=⟨3,t.k,Ah w.regs t.a,Ah w.regs t.b,0,0,0,0,0⟩:=by unfold HD;rw[h];rfl
structure RI where
  L:List RVal
  xs:List Int
  ys:List Int
def RVal.reg(v:Nat)(side:Int):RVal:=⟨2,0,0,0,(v:Int),side,0,0,0⟩
def TQ(row:List Bool)(v:Nat):Int:=bif (row[v]?).getD false then 0 else 1
def RI.first(s:RI)(v:Nat):RI:=⟨(Gd s.L (RVal.reg v 0)).2,s.xs++[(Gd s.L (RVal.reg v 0)).1],s.ys⟩
def RI.second(s:RI)(v:Nat)(side:Int):RI:=⟨(Gd s.L (RVal.reg v side)).2,s.xs,s.ys++[(Gd s.L (RVal.reg v side)).1]⟩
def GG(row:List Bool):Nat->RI
  |0=>⟨[],[],[]⟩
  |v+1=>((GG row v).first v).second v (TQ row v)
def tV(L:List RVal)(regs:List Int)(l:List Tac):RW:=l.foldl RW.step ⟨L,regs,[],0⟩
def IU(R:Nat)(row:List Bool)(old:Block):RW:=tV (GG row R).L (GG row R).xs old.ins
def Lz(R:Nat)(row:List Bool)(old new:Block):RW:=tV (IU R row old).L (GG row R).ys new.ins
def RW.vw(w:RW):VW:=⟨[],w.regs,[],0⟩
def TU(R:Nat)(old new:Block)(c:Cert)(i:Int)(next:List Int):Bool:=
  decide ((IU R (c.at' i) old).out=(Lz R (c.at' i) old new).out)&&((!(old.fin==2)||Ah (IU R (c.at' i) old).regs old.v==Ah (Lz R (c.at' i) old new).regs new.v)&&next.all fun k=>DU (IU R (c.at' i) old).vw (Lz R (c.at' i) old new).vw (c.at' k))
def T2(old new:BFunc)(c:Cert):Bool:=(old.blocks.zip new.blocks).zipIdx.all fun p=>TU old.regs.toNat p.1.1 p.1.2 c (p.2:Int) p.1.1.nexts
def OR(f:BFunc)(c:Cert):Bool:=decide (c.same.length=f.blocks.length)&&c.same.all fun r=>decide ((r.length:Int)=f.regs)
def XV(old new:BFunc)(c:Cert):Bool:=vshaped old new&&(OR old c&&T2 old new c)
section
variable {R : Nat} {old new : Block} {c : Cert} {i : Int} {next : List Int}
end
section
variable {P : Program} {T : Nat -> Option Ae} {h : Aa}
end
theorem iL{w:RW}{t:Tac}(ho:t.op=1):w.step t=w.put t.d (Gd w.L ⟨1,0,0,0,0,0,0,0,t.n⟩):=by
 grind[RW.step,Gd]
theorem iK{w:RW}{t:Tac}(ho:t.op=2):w.step t={w with regs:=Bi w.regs t.d (Ah w.regs t.a)}:=by
 grind[RW.step,Bi,Ah]
theorem iJ{w:RW}{t:Tac}(ho:t.op=3):w.step t=w.bin t:=by
 grind[RW.step]
theorem iI{w:RW}{t:Tac}(ho:t.op=4):w.step t=w.put t.d (Gd w.L ⟨4,0,0,0,0,0,t.base,w.time,0⟩):=by
 grind[RW.step,Gd]
theorem iH{w:RW}{t:Tac}(ho:t.op=5):w.step t=(w.eff ⟨t.op,0,t.base,0,Ah w.regs t.a,0⟩).tick:=by
 grind[RW.step,Ah]
theorem iG{w:RW}{t:Tac}(ho:t.op=6):w.step t=w.get t ⟨t.op,0,t.base,t.size,Ah w.regs t.a,0⟩:=by
 grind[RW.step,Ah]
theorem iF{w:RW}{t:Tac}(ho:t.op=7):w.step t=(w.eff ⟨t.op,0,t.base,t.size,Ah w.regs t.a,Ah w.regs t.b⟩).tick:=by
 grind[RW.step,Ah]
theorem iE{w:RW}{t:Tac}(ho:t.op=8):w.step t=w.get t ⟨t.op,0,0,0,0,0⟩:=by
 grind[RW.step]
theorem iD{w:RW}{t:Tac}(ho:t.op=9):w.step t=w.eff ⟨t.op,0,0,0,Ah w.regs t.a,0⟩:=by
 grind[RW.step,Ah]
theorem iM{w:RW}{t:Tac}(h1:(t.op==1)=false)(h2:(t.op==2)=false)(h3:(t.op==3)=false)(h4:(t.op==4)=false)(h5:(t.op==5)=false)(h6:(t.op==6)=false)(h7:(t.op==7)=false)(h8:(t.op==8)=false)(h9:(t.op==9)=false):w.step t=(w.eff ⟨t.op,0,t.base,0,0,0⟩).tick:=by
 grind[RW.step]
inductive Tm where
  |old (v:Nat)
  |own (v:Nat)
  |cst (n:Int)
  |op (k:Int) (a b:Tm)
  |ld (base time:Int)
  |unk (n:Nat)
  deriving DecidableEq
structure SE where
  risk:Bool
  op:Int
  k:Int
  base:Int
  size:Int
  a:Option Tm
  b:Option Tm
  deriving DecidableEq
structure SS where
  regs:List Tm
  effs:List SE
  time:Int
def tget(l:List Tm)(z:Int):Tm:=(l[z.toNat]?).getD (.cst 0)
def tset(l:List Tm)(z:Int)(t:Tm):List Tm:=l.set z.toNat t
def Tm.isZero:Tm->Bool
  | .cst n=>n==0
  |_=>true
def trisky(k:Int)(b:Tm):Bool:=(k==7||k==8)&&b.isZero
def Da(k:Int)(a b:Tm):Tm:=match a,b with
  | .cst x,.cst y=>bif trisky k (.cst y)then .op k a b else .cst (B1 k x y).1
  |_,_=>.op k a b
def SS.put(s:SS)(z:Int)(t:Tm):SS:={s with regs:=tset s.regs z t}
def SS.eff(s:SS)(e:SE):SS:={s with effs:=s.effs++[e]}
def SS.tick(s:SS):SS:={s with time:=s.time+1}
def SS.div(s:SS)(t:Tac):SS:=bif trisky t.k (tget s.regs t.b)then s.eff ⟨true,3,t.k,0,0,some (tget s.regs t.a),some (tget s.regs t.b)⟩else s
def SS.bin(s:SS)(t:Tac):SS:=(s.div t).put t.d (Da t.k (tget s.regs t.a) (tget s.regs t.b))
def SS.get(s:SS)(t:Tac)(e:SE):SS:=(s.eff e).put t.d (.unk s.effs.length)
def SS.step(s:SS)(t:Tac):SS:=
  bif t.op==1 then s.put t.d (.cst t.n)
  else bif t.op==2 then s.put t.d (tget s.regs t.a)
  else bif t.op==3 then s.bin t
  else bif t.op==4 then s.put t.d (.ld t.base s.time)
  else bif t.op==5 then(s.eff ⟨false,5,0,t.base,0,some (tget s.regs t.a),none⟩).tick
  else bif t.op==6 then s.get t ⟨false,6,0,t.base,t.size,some (tget s.regs t.a),none⟩
  else bif t.op==7 then(s.eff ⟨false,7,0,t.base,t.size,some (tget s.regs t.a),some (tget s.regs t.b)⟩).tick
  else bif t.op==8 then s.get t ⟨false,8,0,0,0,none,none⟩
  else bif t.op==9 then s.eff ⟨false,9,0,0,0,some (tget s.regs t.a),none⟩
  else(s.eff ⟨false,10,0,t.base,0,none,none⟩).tick
structure MV(t:Tac)(R:Nat):Prop extends Pz t R where
  op:1<=t.op/\t.op<=10
  k:t.op=3->4<=t.k/\t.k<=15
  want:t=t.want
def SE.wf(e:SE):Prop:=(e.risk=true/\e.op=3/\e.base=0/\e.size=0/\e.a.isSome/\e.b.isSome)\/
  (e.risk=false/\e.k=0/\(e.op=5/\e.size=0/\e.a.isSome/\e.b=none\/e.op=6/\e.a.isSome/\e.b=none\/e.op=7/\e.a.isSome/\e.b.isSome\/e.op=8/\e.base=0/\e.size=0/\e.a=none/\e.b=none\/e.op=9/\e.base=0/\e.size=0/\e.a.isSome/\e.b=none\/e.op=10/\e.size=0/\e.a=none/\e.b=none))
theorem Tp{s:SS}(h:∀e∈s.effs,e.wf)(t:Tac):∀e∈(s.step t).effs,e.wf:=by
 have hap:∀e:SE,e.wf->∀x∈s.effs++[e],x.wf:=fun e he x hx=>by
  grind
 unfold SS.step
 cases t.op==1 with
 |true=>exact h
 |false=>
 cases t.op==2 with
 |true=>exact h
 |false=>
 cases t.op==3 with
 |true=>
  show ∀e∈(s.div t).effs,e.wf
  unfold SS.div
  cases trisky t.k (tget s.regs t.b)with
  |true=>exact hap _ (.inl ⟨rfl,rfl,rfl,rfl,rfl,rfl⟩)
  |false=>exact h
 |false=>
 cases t.op==4 with
 |true=>exact h
 |false=>
 cases t.op==5 with
 |true=>exact hap _ (.inr ⟨rfl,rfl,.inl ⟨rfl,rfl,rfl,rfl⟩⟩)
 |false=>
 cases t.op==6 with
 |true=>exact hap _ (.inr ⟨rfl,rfl,.inr (.inl ⟨rfl,rfl,rfl⟩)⟩)
 |false=>
 cases t.op==7 with
 |true=>exact hap _ (.inr ⟨rfl,rfl,.inr (.inr (.inl ⟨rfl,rfl,rfl⟩))⟩)
 |false=>
 cases t.op==8 with
 |true=>exact hap _ (.inr ⟨rfl,rfl,.inr (.inr (.inr (.inl ⟨rfl,rfl,rfl,rfl,rfl⟩)))⟩)
 |false=>
 cases t.op==9 with
 |true=>exact hap _ (.inr ⟨rfl,rfl,.inr (.inr (.inr (.inr (.inl ⟨rfl,rfl,rfl,rfl,rfl⟩))))⟩)
 |false=>exact hap _ (.inr ⟨rfl,rfl,.inr (.inr (.inr (.inr (.inr ⟨rfl,rfl,rfl,rfl⟩))))⟩)
theorem SS.step_len(s:SS)(t:Tac):(s.step t).regs.length=s.regs.length:=by
 unfold SS.step
 cases t.op==1 with
 |true=>simp[SS.put,tset]
 |false=>
 cases t.op==2 with
 |true=>simp[SS.put,tset]
 |false=>
 cases t.op==3 with
 |true=>simp only[cond_true,cond_false,SS.bin,SS.put,tset,List.length_set,SS.div];cases trisky t.k (tget s.regs t.b)<;>rfl
 |false=>
 cases t.op==4 with
 |true=>simp[SS.put,tset]
 |false=>
 cases t.op==5 with
 |true=>rfl
 |false=>
 cases t.op==6 with
 |true=>simp[SS.get,SS.put,SS.eff,tset]
 |false=>
 cases t.op==7 with
 |true=>rfl
 |false=>
 cases t.op==8 with
 |true=>simp[SS.get,SS.put,SS.eff,tset]
 |false=>
 cases t.op==9 with
 |true=>rfl
 |false=>rfl
def All2{α β:Type}(r:α->β->Prop):List α->List β->Prop
  | [],[]=>True
  |x::xs,y::ys=>r x y/\All2 r xs ys
  |_,_=>False
theorem All2.len{α β:Type}{r:α->β->Prop}:∀{l:List α} {m:List β},All2 r l m->l.length=m.length
 | [],[],_=>rfl
 |x::xs,y::ys,h=>by simp[All2.len h.2]
 | [],y::ys,h=>h.elim
 |x::xs,[],h=>h.elim
theorem All2.mono{α β:Type}{r r':α->β->Prop}(hr:∀x y,r x y->r' x y):∀{l:List α} {m:List β},All2 r l m->All2 r' l m
 | [],[],_=>trivial
 |x::xs,y::ys,h=>⟨hr _ _ h.1,All2.mono hr h.2⟩
 | [],y::ys,h=>h.elim
 |x::xs,[],h=>h.elim
theorem All2.snoc{α β:Type}{r:α->β->Prop}{x:α}{y:β}(hx:r x y):∀{l:List α} {m:List β},All2 r l m->All2 r (l++[x]) (m++[y])
 | [],[],_=>⟨hx,trivial⟩
 |a::l,b::m,h=>⟨h.1,All2.snoc hx h.2⟩
 | [],b::m,h=>h.elim
 |a::l,[],h=>h.elim
theorem All2.get{α β:Type}{r:α->β->Prop}:∀{l:List α} {m:List β},All2 r l m->∀{i:Nat} {x:α} {y:β},l[i]?=some x->m[i]?=some y->r x y
 | [],[],_,i,x,y,h1,_=>by simp at h1
 |a::l,b::m,h,0,x,y,h1,h2=>by simp at h1 h2;subst h1;subst h2;exact h.1
 |a::l,b::m,h,i+1,x,y,h1,h2=>All2.get h.2 Ld Lf
 | [],b::m,h,_,_,_,_,_=>h.elim
 |a::l,[],h,_,_,_,_,_=>h.elim
theorem All2.set{α β:Type}{r:α->β->Prop}{x:α}{y:β}(hx:r x y):∀{l:List α} {m:List β} (i:Nat),All2 r l m->All2 r (l.set i x) (m.set i y)
 | [],[],_,_=>trivial
 |a::l,b::m,0,h=>⟨hx,h.2⟩
 |a::l,b::m,i+1,h=>⟨h.1,All2.set hx i h.2⟩
 | [],b::m,_,h=>h.elim
 |a::l,[],_,h=>h.elim
theorem MZ{α β:Type}{r r':α->β->Prop}{p:α->Prop}{q:α->Prop}(hf:∀x y y',p x->r x y->r' x y'->y=y')(hi:∀x x' y,p x->q x'->r x y->r' x' y->x=x'):∀{l l':List α} {m m':List β},(∀x∈l,p x)->(∀x∈l',q x)->All2 r l m->All2 r' l' m'->(m=m'↔l=l')
 | [],[],[],[],_,_,_,_=>by simp
 | [],x::l',[],y::m',_,_,_,_=>by simp
 |x::l,[],y::m,[],_,_,_,_=>by simp
 |x::l,x'::l',y::m,y'::m',hp,hq,h,h'=>by
  have ih:=MZ hf hi (l:=l) (l':=l') (m:=m) (m':=m') (fun z hz=>hp z (by simp[hz])) (fun z hz=>hq z (by simp[hz])) h.2 h'.2
  grind[All2]
 | [],_,_::_,_,_,_,h,_=>h.elim
 |_::_,_,[],_,_,_,h,_=>h.elim
 |_,[],_,_::_,_,_,_,h=>h.elim
 |_,_::_,_,[],_,_,_,h=>h.elim
theorem NW{α:Type}{l:List α}(h:l.Nodup){i j:Nat}{x:α}(hi:l[i]?=some x)(hj:l[j]?=some x):i=j:=by
 obtain⟨h1,e1⟩:=List.getElem?_eq_some_iff.1 hi;obtain⟨h2,e2⟩:=List.getElem?_eq_some_iff.1 hj;have hp:=List.pairwise_iff_getElem.1 h
 grind
theorem I5{α:Type}{l m:List α}(h:l<+:m){i:Nat}{x:α}(hi:l[i]?=some x):m[i]?=some x:=by
 obtain⟨r,rfl⟩:=h
 grind
def VN(R:Nat)(ts:List Tm):Tm->Int->Prop
  | .old v,n=>n=(v:Int)/\v<R
  | .own v,n=>n=((R+v:Nat):Int)/\v<R
  |t,n=>∃i:Nat,ts[i]?=some t/\n=((2*R+i:Nat):Int)
def VK(R:Nat)(ts:List Tm):Tm->List Int->Prop
  | .cst n,k=>k=[1,n,0,0]
  | .op o a b,k=>∃x y,VN R ts a x/\VN R ts b y/\k=[2,o,x,y]
  | .ld b τ,k=>k=[3,b,τ,0]
  | .unk n,k=>k=[4,(n:Int)+1,0,0]
  |_,_=>False
structure VT(R:Nat)(ts:List Tm)(K:List (List Int)):Prop where
  nd:ts.Nodup
  len:K.length=ts.length
  key:∀(i:Nat) (t:Tm) (k:List Int),ts[i]?=some t->K[i]?=some k->VK R ts t k
  word:∀(n:Int),Tm.cst n∈ts->Hf n
section
variable {R : Nat} {ts ts' : List Tm} {K : List (List Int)}
theorem VN.ext(hp:ts<+:ts'):∀{t:Tm} {n:Int},VN R ts t n->VN R ts' t n
 | .old _,_,h=>h
 | .own _,_,h=>h
 | .cst _,_,⟨i,h1,h2⟩=>⟨i,I5 hp h1,h2⟩
 | .op _ _ _,_,⟨i,h1,h2⟩=>⟨i,I5 hp h1,h2⟩
 | .ld _ _,_,⟨i,h1,h2⟩=>⟨i,I5 hp h1,h2⟩
 | .unk _,_,⟨i,h1,h2⟩=>⟨i,I5 hp h1,h2⟩
theorem VK.ext(hp:ts<+:ts'):∀{t:Tm} {k:List Int},VK R ts t k->VK R ts' t k
 | .cst _,_,h=>h
 | .op _ _ _,_,⟨x,y,h1,h2,h3⟩=>⟨x,y,h1.ext hp,h2.ext hp,h3⟩
 | .ld _ _,_,h=>h
 | .unk _,_,h=>h
theorem aD{t:Tm}{k:List Int}{n:Int}(hk:VK R ts t k):VN R ts t n↔ ∃i:Nat,ts[i]?=some t/\n=((2*R+i:Nat):Int):=by
 cases t with
 |old=>exact hk.elim
 |own=>exact hk.elim
 |_=>exact Iff.rfl
theorem VN.cls{t:Tm}{n:Int}(h:VN R ts t n):(∃v:Nat,t=.old v/\n=(v:Int)/\v<R)\/(∃v:Nat,t=.own v/\n=((R+v:Nat):Int)/\v<R)\/(∃i:Nat,ts[i]?=some t/\n=((2*R+i:Nat):Int)):=by
 cases t with
 |old v=>exact .inl ⟨v,rfl,h.1,h.2⟩
 |own v=>exact .inr (.inl ⟨v,rfl,h.1,h.2⟩)
 |_=>exact .inr (.inr h)
theorem VN.uniq(hnd:ts.Nodup)(hno:∀v,Tm.old v∉ts/\Tm.own v∉ts){t:Tm}{n m:Int}(h1:VN R ts t n)(h2:VN R ts t m):n=m:=by
 cases t with
 |old=>exact h1.1.trans h2.1.symm
 |own=>exact h1.1.trans h2.1.symm
 |_=>
  obtain⟨i,a1,a2⟩:=h1;obtain⟨j,b1,b2⟩:=h2;have:=NW hnd a1 b1;omega
theorem VN.inj{t s:Tm}{n:Int}(h1:VN R ts t n)(h2:VN R ts s n):t=s:=by
 rcases h1.cls with⟨v,rfl,a1,a2⟩|⟨v,rfl,a1,a2⟩|⟨i,a1,a2⟩<;>rcases h2.cls with⟨u,rfl,b1,b2⟩|⟨u,rfl,b1,b2⟩|⟨j,b1,b2⟩
 . rw[show v=u by omega]
 . omega
 . omega
 . omega
 . rw[show v=u by omega]
 . omega
 . omega
 . omega
 . have:i=j:=by omega
   subst this;rw[a1]at b1;exact Option.some.inj b1
theorem VT.noreg(h:VT R ts K)(v:Nat):Tm.old v∉ts/\Tm.own v∉ts:=by
 constructor
 . intro hm;exact fI
 . intro hm;exact fI
theorem VT.uniq(h:VT R ts K){t:Tm}{n m:Int}(h1:VN R ts t n)(h2:VN R ts t m):n=m:=VN.uniq h.nd h.noreg h1 h2
theorem VK.uniq(h:VT R ts K):∀{t:Tm} {k k':List Int},VK R ts t k->VK R ts t k'->k=k'
 | .cst _,_,_,h1,h2=>h1.trans h2.symm
 | .op _ _ _,_,_,⟨x,y,a1,a2,a3⟩,⟨x',y',b1,b2,b3⟩=>by rw[a3,b3,h.uniq a1 b1,h.uniq a2 b2]
 | .ld _ _,_,_,h1,h2=>h1.trans h2.symm
 | .unk _,_,_,h1,h2=>h1.trans h2.symm
theorem VK.inj:∀{t s:Tm} {k:List Int},VK R ts t k->VK R ts s k->t=s
 | .cst n,.cst m,_,h1,h2=>by have:=h1.symm.trans h2;simp at this;rw[this]
 | .cst n,.op _ _ _,_,h1,⟨x,y,_,_,h2⟩=>by have:=h1.symm.trans h2;simp at this
 | .cst n,.ld _ _,_,h1,h2=>by have:=h1.symm.trans h2;simp at this
 | .cst n,.unk _,_,h1,h2=>by have:=h1.symm.trans h2;simp at this
 | .op _ _ _,.cst _,_,⟨x,y,_,_,h1⟩,h2=>by have:=h1.symm.trans h2;simp at this
 | .op o a b,.op o' a' b',_,⟨x,y,a1,a2,a3⟩,⟨x',y',b1,b2,b3⟩=>by
  grind[VN.inj,VK]
 | .op _ _ _,.ld _ _,_,⟨x,y,_,_,h1⟩,h2=>by have:=h1.symm.trans h2;simp at this
 | .op _ _ _,.unk _,_,⟨x,y,_,_,h1⟩,h2=>by have:=h1.symm.trans h2;simp at this
 | .ld _ _,.cst _,_,h1,h2=>by have:=h1.symm.trans h2;simp at this
 | .ld _ _,.op _ _ _,_,h1,⟨x,y,_,_,h2⟩=>by have:=h1.symm.trans h2;simp at this
 | .ld b τ,.ld b' τ',_,h1,h2=>by have:=h1.symm.trans h2;simp at this;rw[this.1,this.2]
 | .ld _ _,.unk _,_,h1,h2=>by have:=h1.symm.trans h2;simp at this
 | .unk _,.cst _,_,h1,h2=>by have:=h1.symm.trans h2;simp at this
 | .unk _,.op _ _ _,_,h1,⟨x,y,_,_,h2⟩=>by have:=h1.symm.trans h2;simp at this
 | .unk _,.ld _ _,_,h1,h2=>by have:=h1.symm.trans h2;simp at this
 | .unk n,.unk m,_,h1,h2=>by
  grind[VK]
theorem N4{k:List Int}:∀{K:List (List Int)},kidx k K=none->k∉K
 | [],_=>by simp
 |x::r,h=>by
  unfold kidx at h
  cases hx:k==x with
  |true=>rw[hx]at h;cases h
  |false=>
   rw[hx]at h;have h':kidx k r=none:=by simpa using h
   have:=N4 h';simp only[List.mem_cons,not_or];exact⟨by simpa using hx,this⟩
theorem VT.num(h:VT R ts K){t:Tm}{k:List Int}(hk:VK R ts t k)(hw:∀n,t=.cst n->Hf n):∃ts',ts<+:ts'/\VT R ts' (Ck ((2*R:Nat):Int) K k).2/\VN R ts' t (Ck ((2*R:Nat):Int) K k).1:=by
 cases e:kidx k K with
 |some i=>
  rw[Li e];obtain⟨h1,h2⟩:=Pc e;obtain⟨s,hs⟩:=Ag (l:=ts) (k:=i) (by rw[<-h.len];exact h1);have:=VK.inj (h.key i s k hs h2) hk;subst this;exact⟨ts,List.prefix_rfl,h,(aD hk).2 ⟨i,hs,by push_cast;omega⟩⟩
 |none=>
  rw[Lj e];have hni:=N4 e;have hnt:t∉ts:=fun hm=>by
   obtain⟨i,hi⟩:=List.mem_iff_getElem?.1 hm;obtain⟨k',hk'⟩:=Ag (l:=K) (k:=i) gZ;have:=VK.uniq h (h.key i t k' hi hk') hk;subst this;exact hni (List.mem_of_getElem? hk')
  have hp:ts<+:ts++[t]:=List.prefix_append _ _;refine⟨ts++[t],hp,⟨?_,?_,fun i s k' hs hk'=>?_,fun n hn=>?_⟩,?_⟩
  . rw[List.nodup_append];exact⟨h.nd,by simp,fun a ha b hb=>by simp at hb;subst hb;exact fun e=>hnt (e▸ha)⟩
  . simp[h.len]
  . rw[List.getElem?_append]at hs hk';exact k6
  . simp only[List.mem_append,List.mem_singleton]at hn;rcases hn with hn|hn
    . exact h.word n hn
    . exact hw n hn.symm
  . exact(aD (hk.ext hp)).2 ⟨ts.length,by simp,by rw[h.len];push_cast;omega⟩
theorem VT.cst(h:VT R ts K){t:Tm}{n:Int}(hn:VN R ts t n):(∃c,t=.cst c/\Hf c/\AZ ((2*R:Nat):Int) K n=(c,true))\/((∀c,t≠ .cst c)/\(AZ ((2*R:Nat):Int) K n).2=false):=by
 rcases hn.cls with⟨v,rfl,a1,a2⟩|⟨v,rfl,a1,a2⟩|⟨i,a1,a2⟩
 . exact .inr ⟨fun c=>by simp,by rw[HY FI]⟩
 . exact .inr ⟨fun c=>by simp,by rw[HY FI]⟩
 . obtain⟨k,hk⟩:=Ag (l:=K) (k:=i) (by rw[h.len];exact(List.getElem?_eq_some_iff.1 a1).1);have hkey:=h.key i t k a1 hk;have hv:AZ ((2*R:Nat):Int) K n=(IntKind.u32.wrap (Ah k 1),Ah k 0==1):=by
    unfold AZ;rw[show decide (n<((2*R:Nat):Int))=false by simp;omega,show(n-((2*R:Nat):Int)).toNat=i by omega,hk];rfl
   rw[hv]
   cases t with
   |old=>exact hkey.elim
   |own=>exact hkey.elim
   |cst c=>
    have hc:=h.word c (List.mem_of_getElem? a1);have hk':k=[1,c,0,0]:=hkey;subst hk';refine .inl ⟨c,rfl,hc,?_⟩;show(IntKind.u32.wrap c,true)=_;rw[IntKind.wrap_u32];obtain⟨h1,h2⟩:=hc;congr 1;omega
   |op o a b=>
    obtain⟨x,y,_,_,rfl⟩:=hkey;exact .inr ⟨fun c=>by simp,rfl⟩
   |ld b τ=>
    have hk':k=[3,b,τ,0]:=hkey;subst hk';exact .inr ⟨fun c=>by simp,rfl⟩
   |unk m=>
    have hk':k=[4,(m:Int)+1,0,0]:=hkey;subst hk';exact .inr ⟨fun c=>by simp,rfl⟩
end
def VO(R:Nat)(ts:List Tm):Option Tm->Int->Prop
  |none,n=>n=0
  |some t,n=>VN R ts t n
def VE(R:Nat)(ts:List Tm)(e:SE)(k:List Int):Prop:=∃x y,VO R ts e.a x/\VO R ts e.b y/\k=bif e.risk then [1,e.k,x,y,0,0]else [2,e.op,e.base,e.size,x,y]
structure VS(R:Nat)(ts:List Tm)(w:VW)(s:SS):Prop where
  t:VT R ts w.K
  regs:All2 (VN R ts) s.regs w.vals
  effs:All2 (VE R ts) s.effs w.effs
  time:w.time=s.time
section
variable {R : Nat} {ts ts' : List Tm}
theorem VO.ext(hp:ts<+:ts'):∀{t:Option Tm} {n:Int},VO R ts t n->VO R ts' t n
 |none,_,h=>h
 |some _,_,h=>VN.ext hp h
theorem VE.ext(hp:ts<+:ts'){e:SE}{k:List Int}:VE R ts e k->VE R ts' e k:=fun⟨x,y,h1,h2,h3⟩=>⟨x,y,h1.ext hp,h2.ext hp,h3⟩
theorem VS.at{w:VW}{s:SS}(h:VS R ts w s){z:Int}(hz:0<=z/\z<s.regs.length):VN R ts (tget s.regs z) (Ah w.vals z):=by
 have hl:=h.regs.len;obtain⟨x,hx⟩:=Ag (l:=s.regs) (k:=z.toNat) Ab;obtain⟨y,hy⟩:=Ag (l:=w.vals) (k:=z.toNat) Ab;unfold tget Ah;rw[hx,hy];exact h.regs.get hx hy
theorem VS.put{w:VW}{s:SS}(h:VS R ts w s)(z:Int){t:Tm}{k:List Int}(hk:VK R ts t k)(hw:∀n,t=.cst n->Hf n):∃ts',ts<+:ts'/\VS R ts' (w.put z (Ck ((2*R:Nat):Int) w.K k)) (s.put z t):=by
 exact fB
theorem VS.eff{w:VW}{s:SS}(h:VS R ts w s){e:SE}{k:List Int}(he:VE R ts e k):VS R ts {w with effs:=w.effs++[k]} (s.eff e):=⟨h.t,h.regs,h.effs.snoc he,h.time⟩
theorem VS.tick{w:VW}{s:SS}(h:VS R ts w s):VS R ts w.tick s.tick:=⟨h.t,h.regs,h.effs,by show w.time+1=s.time+1;rw[h.time]⟩
theorem VS.get{w:VW}{s:SS}(h:VS R ts w s)(t:Tac){e:SE}{a:Int}(he:VE R ts e [2,t.op,t.base,t.size,a,0]):∃ts',ts<+:ts'/\VS R ts' ((w.hap t a 0).put t.d (GN ((2*R:Nat):Int) (w.hap t a 0))) (s.get t e):=by
 have h1:VS R ts (w.hap t a 0) (s.eff e):=h.eff he;have hlen:(w.hap t a 0).effs.length=s.effs.length+1:=by
  have:=h.effs.len;show(w.effs++[_]).length=_;simp[this]
 refine h1.put t.d (t:=.unk s.effs.length) (k:=[4,((w.hap t a 0).effs.length:Int),0,0]) ?_ (fun n e=>by cases e);show _=_;rw[hlen];push_cast;rfl
theorem VS.risky{w:VW}{s:SS}(h:VS R ts w s){t:Tac}(hb:0<=t.b/\t.b<s.regs.length):vrisky ((2*R:Nat):Int) w t=trisky t.k (tget s.regs t.b):=by
 unfold vrisky trisky;congr 1;exact fO
theorem Xi{k x y:Int}(hk:4<=k/\k<=15):((B1 k x y).2==0)= !(((k==7||k==8))&&y==0):=by
 unfold B1;have h:k=4\/k=5\/k=6\/k=7\/k=8\/k=9\/k=10\/k=11\/k=12\/k=13\/k=14\/k=15:=by omega
 rcases h with rfl|rfl|rfl|rfl|rfl|rfl|rfl|rfl|rfl|rfl|rfl|rfl<;>first|rfl|(simp only[F8];cases y==0<;>rfl)
theorem VS.apply{w:VW}{s:SS}(h:VS R ts w s){t:Tac}(hk:4<=t.k/\t.k<=15)(ha:0<=t.a/\t.a<s.regs.length)(hb:0<=t.b/\t.b<s.regs.length):
 ∃k,Bs ((2*R:Nat):Int) w.K t.k (Ah w.vals t.a) (Ah w.vals t.b)=Ck ((2*R:Nat):Int) w.K k/\VK R ts (Da t.k (tget s.regs t.a) (tget s.regs t.b)) k/\∀n,Da t.k (tget s.regs t.a) (tget s.regs t.b)=.cst n->Hf n:=by
 have hna:=h.at ha;have hnb:=h.at hb;have hop:∀x y:Tm,VN R ts x (Ah w.vals t.a)->VN R ts y (Ah w.vals t.b)->VK R ts (.op t.k x y) [2,t.k,Ah w.vals t.a,Ah w.vals t.b]:=fun x y h1 h2=>⟨_,_,h1,h2,rfl⟩
 rcases h.t.cst hna with⟨c,h1,h2,h3⟩|⟨h1,h2⟩
 . rcases h.t.cst hnb with⟨d,g1,g2,g3⟩|⟨g1,g2⟩
   . rw[h1]at hna|-;rw[g1]at hnb|-;have herr:=Xi (k:=t.k) (x:=c) (y:=d) hk
     cases hr:trisky t.k (.cst d)with
     |true=>
      have hr':((t.k==7||t.k==8)&&d==0)=true:=hr;refine⟨_,Nw (by rw[h3,g3,herr,hr'];rfl),?_,?_⟩
      . simp only[Da,hr,cond_true];exact hop _ _ hna hnb
      . simp only[Da,hr,cond_true];intro n e;cases e
     |false=>
      have hr':((t.k==7||t.k==8)&&d==0)=false:=hr;refine⟨_,PR (by rw[h3]) (by rw[g3]) (by rw[h3,g3,herr,hr'];rfl),?_,?_⟩
      . simp only[Da,hr,cond_false];rw[h3,g3];rfl
      . simp only[Da,hr,cond_false];intro n e
        cases e
        exact Hv h2 g2
   . refine⟨_,Nx g2,?_,?_⟩
     . cases e2:tget s.regs t.b with
       |cst d=>exact absurd e2 (g1 d)
       |_=>rw[h1]at hna|-;rw[e2]at hnb;exact hop _ _ hna hnb
     . intro n e
       cases e2:tget s.regs t.b with
       |cst d=>exact absurd e2 (g1 d)
       |_=>rw[h1,e2]at e;cases e
 . refine⟨_,Ny h2,?_,?_⟩
   . cases e1:tget s.regs t.a with
     |cst d=>exact absurd e1 (h1 d)
     |_=>rw[e1]at hna;exact hop _ _ hna hnb
   . intro n e
     cases e1:tget s.regs t.a with
     |cst d=>exact absurd e1 (h1 d)
     |_=>rw[e1]at e;cases e
theorem VS.step{w:VW}{s:SS}(h:VS R ts w s){t:Tac}(ht:MV t R)(hl:s.regs.length=R):∃ts',ts<+:ts'/\VS R ts' (w.step ((2*R:Nat):Int) t) (s.step t):=by
 have hd:setsOp t.op=true->0<=t.d/\t.d<s.regs.length:=fun e=>by rw[hl];exact ht.d e
 have ha:use1 t.op=true\/use2 t.op=true->0<=t.a/\t.a<s.regs.length:=fun e=>by rw[hl];exact ht.a e
 have hb:use2 t.op=true->0<=t.b/\t.b<s.regs.length:=fun e=>by rw[hl];exact ht.b e
 have hw:=ht.want;have h10:t.op=1\/t.op=2\/t.op=3\/t.op=4\/t.op=5\/t.op=6\/t.op=7\/t.op=8\/t.op=9\/t.op=10:=by have:=ht.op;omega
 have hsz:Dd t.op=false->t.size=0:=fun e=>by have:=congrArg Tac.size hw;simp only[Tac.want,e,cond_false]at this;exact this
 have hbs:(FE t.op||(Dd t.op||t.op==10))=false->t.base=0:=fun e=>by have:=congrArg Tac.base hw;simp only[Tac.want,e,cond_false]at this;exact this
 rcases h10 with ho|ho|ho|ho|ho|ho|ho|ho|ho|ho
 . rw[Xr ho,show s.step t=s.put t.d (.cst t.n) by unfold SS.step;rw[ho];rfl];exact h.put t.d rfl (fun n e=>by cases e;exact ht.n)
 . rw[Xq ho,show s.step t=s.put t.d (tget s.regs t.a) by unfold SS.step;rw[ho];rfl];exact⟨ts,List.prefix_rfl,h.t,h.regs.set (h.at (ha (.inl CH))) _,h.effs,h.time⟩
 . rw[Xp ho,show s.step t=s.bin t by unfold SS.step;rw[ho];rfl];have ha':=ha (.inr CH);have hb':=hb CH;obtain⟨k,hk1,hk2,hk3⟩:=h.apply (ht.k ho) ha' hb';have hr:=h.risky hb';have h1:VS R ts (w.div ((2*R:Nat):Int) t) (s.div t):=by
    unfold VW.div SS.div;rw[hr]
    cases trisky t.k (tget s.regs t.b)with
    |true=>exact h.eff ⟨_,_,h.at ha',h.at hb',rfl⟩
    |false=>exact h
   unfold VW.bin SS.bin;rw[hk1];have:=h1.put t.d hk2 hk3;rwa[ZU]at this
 . rw[Xo ho,show s.step t=s.put t.d (.ld t.base s.time) by unfold SS.step;rw[ho];rfl];exact h.put t.d (by show _=_;rw[h.time]) (fun n e=>by cases e)
 . rw[Xn ho,show s.step t=(s.eff ⟨false,5,0,t.base,0,some (tget s.regs t.a),none⟩).tick by unfold SS.step;rw[ho];rfl];refine⟨ts,List.prefix_rfl,VS.tick (h.eff ⟨_,_,h.at (ha (.inl CH)),rfl,?_⟩)⟩;rw[ho,hsz CH];rfl
 . rw[Xm ho,show s.step t=s.get t ⟨false,6,0,t.base,t.size,some (tget s.regs t.a),none⟩ by unfold SS.step;rw[ho];rfl];refine h.get t ⟨_,_,h.at (ha (.inl CH)),rfl,?_⟩;rw[ho];rfl
 . rw[Xl ho,show s.step t=(s.eff ⟨false,7,0,t.base,t.size,some (tget s.regs t.a),some (tget s.regs t.b)⟩).tick by unfold SS.step;rw[ho];rfl];refine⟨ts,List.prefix_rfl,VS.tick (h.eff ⟨_,_,h.at (ha (.inr CH)),h.at (hb CH),?_⟩)⟩;rw[ho];rfl
 . rw[Xk ho,show s.step t=s.get t ⟨false,8,0,0,0,none,none⟩ by unfold SS.step;rw[ho];rfl];refine h.get t ⟨_,_,rfl,rfl,?_⟩;rw[ho,hsz CH,hbs CH];rfl
 . rw[Xj ho,show s.step t=s.eff ⟨false,9,0,0,0,some (tget s.regs t.a),none⟩ by unfold SS.step;rw[ho];rfl];refine⟨ts,List.prefix_rfl,h.eff ⟨_,_,h.at (ha (.inl CH)),rfl,?_⟩⟩;rw[ho,hsz CH,hbs CH];rfl
 . rw[TF ho,show s.step t=(s.eff ⟨false,10,0,t.base,0,none,none⟩).tick by unfold SS.step;rw[ho];rfl];refine⟨ts,List.prefix_rfl,VS.tick (h.eff ⟨_,_,rfl,rfl,?_⟩)⟩;rw[ho,hsz CH];rfl
end
def BF(R:Nat):List Tm:=(List.range R).map Tm.old
def EV(row:List Bool)(v:Nat):Tm:=bif (row[v]?).getD false then .old v else .own v
def GT(R:Nat)(row:List Bool):List Tm:=(List.range R).map (EV row)
def BT(regs:List Tm)(l:List Tac):SS:=l.foldl SS.step ⟨regs,[],0⟩
def Lr(x y:List Tm)(row:List Bool):Bool:=row.zipIdx.all fun p=> !p.1||decide (tget x (p.2:Int)=tget y (p.2:Int))
def Ko(R:Nat)(old new:Block)(c:Cert)(i:Int)(next:List Int):Bool:=
  decide ((BT (BF R) old.ins).effs=(BT (GT R (c.at' i)) new.ins).effs)&&((!(old.fin==2)||decide (tget (BT (BF R) old.ins).regs old.v=tget (BT (GT R (c.at' i)) new.ins).regs new.v))&&next.all fun k=>Lr (BT (BF R) old.ins).regs (BT (GT R (c.at' i)) new.ins).regs (c.at' k))
theorem All2.map{α β γ:Type}{r:β->γ->Prop}{f:α->β}{g:α->γ}:∀{l:List α},(∀x∈l,r (f x) (g x))->All2 r (l.map f) (l.map g)
 | [],_=>trivial
 |x::l,h=>⟨h x Az,All2.map fun y hy=>h y (by simp[hy])⟩
theorem IS(regs:List Tm)(l:List Tac):(BT regs l).regs.length=regs.length:=by
 unfold BT
 suffices h:∀s:SS,(l.foldl SS.step s).regs.length=s.regs.length by exact h ⟨regs,[],0⟩
 induction l with
 |nil=>exact fun s=>rfl
 |cons t l ih=>exact fun s=>(ih _).trans (s.step_len t)
theorem KZ(regs:List Tm)(l:List Tac):∀e∈(BT regs l).effs,e.wf:=by
 unfold BT
 suffices h:∀s:SS,(∀e∈s.effs,e.wf)->∀e∈(l.foldl SS.step s).effs,e.wf by exact h ⟨regs,[],0⟩ (fun e he=>by simp at he)
 induction l with
 |nil=>exact fun s h=>h
 |cons t l ih=>exact fun s h=>ih _ (Tp h t)
theorem Em(R:Nat):(BF R).length=R:=by simp[BF]
theorem IP(R:Nat)(row:List Bool):(GT R row).length=R:=by simp[GT]
section
variable {R : Nat} {ts : List Tm}
theorem VS.fold{l:List Tac}(hl:∀t∈l,MV t R):∀{ts:List Tm} {w:VW} {s:SS},VS R ts w s->s.regs.length=R->∃ts',ts<+:ts'/\VS R ts' (BQ ((2*R:Nat):Int) l w) (l.foldl SS.step s):=by
 induction l with
 |nil=>exact fun h _=>⟨_,List.prefix_rfl,h⟩
 |cons t l ih=>
  intro ts w s h hr;exact fM
theorem VE.uniq{K:List (List Int)}(hK:VT R ts K){e:SE}{k k':List Int}(h1:VE R ts e k)(h2:VE R ts e k'):k=k':=by
 obtain⟨x,y,a1,a2,a3⟩:=h1;obtain⟨x',y',b1,b2,b3⟩:=h2;have hu:∀{o:Option Tm} {n m:Int},VO R ts o n->VO R ts o m->n=m:=fun {o n m} g1 g2=>by
  cases o with
  |none=>exact g1.trans g2.symm
  |some t=>exact hK.uniq g1 g2
 grind
theorem VE.inj{e e':SE}{k:List Int}(hw:e.wf)(hw':e'.wf)(h1:VE R ts e k)(h2:VE R ts e' k):e=e':=by
 obtain⟨x,y,a1,a2,a3⟩:=h1;obtain⟨x',y',b1,b2,b3⟩:=h2;have hso:∀{o o':Option Tm} {n:Int},o.isSome->o'.isSome->VO R ts o n->VO R ts o' n->o=o':=fun {o o' n} g1 g2 g3 g4=>by
  cases o with
  |none=>cases g1
  |some t=>cases o' with
   |none=>cases g2
   |some s=>rw[VN.inj (R:=R) (ts:=ts) g3 g4]
 obtain⟨r,o,k1,ba,si,oa,ob⟩:=e;obtain⟨r',o',k1',ba',si',oa',ob'⟩:=e';have h3:=a3.symm.trans b3;rcases hw with⟨w1,w2,w3,w4,w5,w6⟩|⟨w1,w0,w2⟩<;>rcases hw' with⟨v1,v2,v3,v4,v5,v6⟩|⟨v1,v0,v2⟩<;>simp only at*
 . subst w1;subst v1;subst w2;subst v2;subst w3;subst v3;subst w4;subst v4;simp only[cond_true,List.cons.injEq,true_and,and_true]at h3;obtain⟨e1,e2,e3⟩:=h3;subst e1;subst e2;subst e3;rw[hso w5 v5 a1 b1,hso w6 v6 a2 b2]
 . subst w1;subst v1;simp at h3
 . subst w1;subst v1;simp at h3
 . subst w1;subst v1;subst w0;subst v0;simp only[cond_false,List.cons.injEq,true_and,and_true]at h3;obtain⟨e1,e2,e3,e4,e5⟩:=h3;subst e1;subst e2;subst e3;subst e4;subst e5;have hfin:oa=oa'->ob=ob'->(⟨false,o,0,ba,si,oa,ob⟩:SE)=⟨false,o,0,ba,si,oa',ob'⟩:=fun q1 q2=>by rw[q1,q2]
   rcases w2 with⟨u1,u2,u3,u4⟩|⟨u1,u3,u4⟩|⟨u1,u3,u4⟩|⟨u1,u2,u5,u3,u4⟩|⟨u1,u2,u5,u3,u4⟩|⟨u1,u2,u3,u4⟩<;>
    rcases v2 with⟨q1,q2,q3,q4⟩|⟨q1,q3,q4⟩|⟨q1,q3,q4⟩|⟨q1,q2,q5,q3,q4⟩|⟨q1,q2,q5,q3,q4⟩|⟨q1,q2,q3,q4⟩<;>first
     |(exfalso;omega)
     |exact hfin (hso u3 q3 a1 b1) (u4.trans q4.symm)
     |exact hfin (hso u3 q3 a1 b1) (hso u4 q4 a2 b2)
     |exact hfin (u3.trans q3.symm) (u4.trans q4.symm)
end
theorem dW{a b:Int}{p:Prop} [Decidable p](h:a=b↔p):(a==b)=decide p:=by
 grind
theorem All2.at{α β:Type}{r:α->β->Prop}{l:List α}{m:List β}(h:All2 r l m){i:Nat}(hi:i<l.length):∃x y,l[i]?=some x/\m[i]?=some y/\r x y:=by
 obtain⟨x,hx⟩:=Ag hi;obtain⟨y,hy⟩:=Ag (l:=m) (k:=i) (by rw[<-h.len];exact hi);exact⟨x,y,hx,hy,h.get hx hy⟩
theorem MU{α:Type}{R:Nat}{rel rel':Tm->Int->Prop}{xs ys:List Tm}{us vs:List Int}(hu:∀t n m,rel t n->rel' t m->n=m)(hi:∀t s n,rel t n->rel' s n->t=s)(h1:All2 rel xs us)(h2:All2 rel' ys vs)(l1:xs.length=R)(l2:ys.length=R){z z':Int}(hz:0<=z/\z<R)(hz':0<=z'/\z'<R):(Ah us z==Ah vs z')=decide (tget xs z=tget ys z'):=by
 obtain⟨x,a,x1,a1,r1⟩:=h1.at (i:=z.toNat) Ab;obtain⟨y,b,y1,b1,r2⟩:=h2.at (i:=z'.toNat) Ab;refine dW ?_
 grind[Ah,tget,All2]
theorem Hq{α:Type}{l:List α}{p q:α->Bool}(h:∀x∈l,p x=q x):l.all p=l.all q:=by
 grind
theorem PT{R:Nat}{rel rel':Tm->Int->Prop}{xs ys:List Tm}{wx wy:VW}{row:List Bool}(hu:∀t n m,rel t n->rel' t m->n=m)(hi:∀t s n,rel t n->rel' s n->t=s)(h1:All2 rel xs wx.vals)(h2:All2 rel' ys wy.vals)(l1:xs.length=R)(l2:ys.length=R)(hr:row.length=R):DU wx wy row=Lr xs ys row:=by
 unfold DU Lr;refine Hq fun p hp=>?_
 obtain⟨b,j⟩:=p;obtain⟨i,hi'⟩:=List.mem_iff_getElem?.1 hp;rw[List.getElem?_zipIdx,Option.map_eq_some_iff]at hi';obtain⟨b',hb',e⟩:=hi';simp only[Nat.zero_add,Prod.mk.injEq]at e;obtain⟨rfl,rfl⟩:=e;have hlt:=(List.getElem?_eq_some_iff.1 hb').1;dsimp only;rw[MU (α:=Unit) (R:=R) hu hi h1 h2 l1 l2 Ab Ab]
theorem bk{R:Nat}{old new:Block}{c:Cert}{i:Int}{next:List Int}(ho:∀t∈old.ins,MV t R)(hn:∀t∈new.ins,MV t R)(hc:∀r∈c.same,r.length=R)(hnx:∀k∈next,0<=k/\k<c.same.length)(hv:old.fin=2->(0<=old.v/\old.v<R)/\(0<=new.v/\new.v<R)):
 EU R old new c i next=Ko R old new c i next:=by
 have h0:VS R [] ⟨[],GP R,[],0⟩ ⟨BF R,[],0⟩:=⟨⟨List.nodup_nil,rfl,fun i t k h=>by simp at h,fun n h=>by simp at h⟩,All2.map fun v hv=>⟨rfl,List.mem_range.1 hv⟩,trivial,rfl⟩;obtain⟨ts1,hp1,h1⟩:=VS.fold ho h0 (Em R);have h2:VS R ts1 ⟨(BA R old).K,F1 R (c.at' i),[],0⟩ ⟨GT R (c.at' i),[],0⟩:=⟨h1.t,All2.map fun v hv=>by
  unfold EV CO;have hlt:=List.mem_range.1 hv
  cases ((c.at' i)[v]?).getD false with
  |true=>exact⟨rfl,hlt⟩
  |false=>exact⟨rfl,hlt⟩,trivial,rfl⟩
 obtain⟨ts2,hp2,h3⟩:=VS.fold hn h2 (IP R _);have hA1:All2 (VN R ts2) (BT (BF R) old.ins).regs (BA R old).vals:=h1.regs.mono fun x y h=>h.ext hp2
 have hA2:All2 (VE R ts2) (BT (BF R) old.ins).effs (BA R old).effs:=h1.effs.mono fun x y h=>h.ext hp2
 have hB1:All2 (VN R ts2) (BT (GT R (c.at' i)) new.ins).regs (Cl R old new (c.at' i)).vals:=h3.regs;have hB2:All2 (VE R ts2) (BT (GT R (c.at' i)) new.ins).effs (Cl R old new (c.at' i)).effs:=h3.effs;have lA:=(IS (BF R) old.ins).trans (Em R);have lB:=(IS (GT R (c.at' i)) new.ins).trans (IP R _);have hu:∀t n m,VN R ts2 t n->VN R ts2 t m->n=m:=fun t n m a b=>h3.t.uniq a b
 have hi:∀t s n,VN R ts2 t n->VN R ts2 s n->t=s:=fun t s n a b=>VN.inj a b
 unfold EU Ko;congr 1
 . exact decide_eq_decide.2 (MZ (r:=VE R ts2) (r':=VE R ts2) (p:=SE.wf) (q:=SE.wf) (fun e k k' _ a b=>VE.uniq h3.t a b) (fun e e' k p q a b=>VE.inj p q a b) (KZ _ _) (KZ _ _) hA2 hB2)
 congr 1
 . by_cases hf:old.fin=2
   . rw[MU (α:=Unit) (R:=R) hu hi hA1 hB1 lA lB (hv hf).1 (hv hf).2]
   . rw[show(old.fin==2)=false by simpa using hf];rfl
 . refine Hq fun k hk=>?_
   have hkr:=hnx k hk;have hrow:(c.at' k).length=R:=by
    obtain⟨r,hr⟩:=Ag (l:=c.same) (k:=k.toNat) Ab;unfold Cert.at';rw[hr];exact hc r (List.mem_of_getElem? hr)
   exact PT (R:=R) hu hi hA1 hB1 lA lB hrow
def RN(ts:List Tm)(t:Tm)(n:Int):Prop:=∃i:Nat,ts[i]?=some t/\n=(i:Int)
def RK(ts:List Tm):Tm->RVal->Prop
  | .cst n,k=>k=⟨1,0,0,0,0,0,0,0,n⟩
  | .op o a b,k=>∃x y,RN ts a x/\RN ts b y/\k=⟨3,o,x,y,0,0,0,0,0⟩
  | .ld b τ,k=>k=⟨4,0,0,0,0,0,b,τ,0⟩
  | .unk n,k=>k=NJ n
  | .old v,k=>k=RVal.reg v 0
  | .own v,k=>k=RVal.reg v 1
structure RT(ts:List Tm)(K:List RVal):Prop where
  nd:ts.Nodup
  len:K.length=ts.length
  key:∀(i:Nat) (t:Tm) (k:RVal),ts[i]?=some t->K[i]?=some k->RK ts t k
  word:∀(n:Int),Tm.cst n∈ts->Hf n
section
variable {ts ts' : List Tm} {K : List RVal}
theorem RN.ext(hp:ts<+:ts'){t:Tm}{n:Int}:RN ts t n->RN ts' t n:=fun⟨i,h1,h2⟩=>⟨i,I5 hp h1,h2⟩
theorem RK.ext(hp:ts<+:ts'):∀{t:Tm} {k:RVal},RK ts t k->RK ts' t k
 | .cst _,_,h=>h
 | .op _ _ _,_,⟨x,y,h1,h2,h3⟩=>⟨x,y,h1.ext hp,h2.ext hp,h3⟩
 | .ld _ _,_,h=>h
 | .unk _,_,h=>h
 | .old _,_,h=>h
 | .own _,_,h=>h
theorem RN.uniq(hnd:ts.Nodup){t:Tm}{n m:Int}(h1:RN ts t n)(h2:RN ts t m):n=m:=by
 grind[NW,RN]
theorem RN.inj{t s:Tm}{n:Int}(h1:RN ts t n)(h2:RN ts s n):t=s:=by
 grind[RN]
theorem RK.uniq(h:ts.Nodup):∀{t:Tm} {k k':RVal},RK ts t k->RK ts t k'->k=k'
 | .cst _,_,_,h1,h2=>h1.trans h2.symm
 | .op _ _ _,_,_,⟨x,y,a1,a2,a3⟩,⟨x',y',b1,b2,b3⟩=>by rw[a3,b3,RN.uniq h a1 b1,RN.uniq h a2 b2]
 | .ld _ _,_,_,h1,h2=>h1.trans h2.symm
 | .unk _,_,_,h1,h2=>h1.trans h2.symm
 | .old _,_,_,h1,h2=>h1.trans h2.symm
 | .own _,_,_,h1,h2=>h1.trans h2.symm
def TO:Tm->Int
  | .cst _=>1
  | .op _ _ _=>3
  | .ld _ _=>4
  | .unk _=>2
  | .old _=>2
  | .own _=>2
def TM:Tm->Int
  | .unk _=>2
  | .own _=>1
  |_=>0
theorem RK.kind{t:Tm}{k:RVal}(h:RK ts t k):k.kind=TO t/\k.side=TM t:=by
 cases t with
 |op o a b=>obtain⟨x,y,_,_,rfl⟩:=h;exact⟨rfl,rfl⟩
 |_=>have h':k=_:=h;subst h';exact⟨rfl,rfl⟩
theorem RK.inj{t s:Tm}{k:RVal}(h1:RK ts t k)(h2:RK ts s k):t=s:=by
 have e1:=h1.kind;have e2:=h2.kind;have ek:TO t=TO s:=e1.1.symm.trans e2.1;have es:TM t=TM s:=e1.2.symm.trans e2.2
 cases t<;>cases s<;>first|(exfalso;revert ek;simp only[TO];decide)|(exfalso;revert es;simp only[TM];decide)|skip
 . have e:RVal.reg _ 0=RVal.reg _ 0:=(show k=_ from h1).symm.trans h2;simp only[RVal.reg,RVal.mk.injEq,true_and,and_true]at e;exact congrArg Tm.old (Int.ofNat_inj.1 e)
 . have e:RVal.reg _ 1=RVal.reg _ 1:=(show k=_ from h1).symm.trans h2;simp only[RVal.reg,RVal.mk.injEq,true_and,and_true]at e;exact congrArg Tm.own (Int.ofNat_inj.1 e)
 . have e:=(show k=_ from h1).symm.trans h2;simp only[RVal.mk.injEq,true_and,and_true]at e;rw[e]
 . obtain⟨x,y,a1,a2,a3⟩:=h1;obtain⟨x',y',b1,b2,b3⟩:=h2;have e:=a3.symm.trans b3;simp only[RVal.mk.injEq,true_and,and_true]at e;obtain⟨q1,q2,q3⟩:=e;subst q2;subst q3;rw[q1,RN.inj a1 b1,RN.inj a2 b2]
 . have e:=(show k=_ from h1).symm.trans h2;simp only[RVal.mk.injEq,true_and,and_true]at e;rw[e.1,e.2]
 . have e:NJ _=NJ _:=(show k=_ from h1).symm.trans h2;simp only[NJ,RVal.mk.injEq,true_and,and_true]at e;exact congrArg Tm.unk (Int.ofNat_inj.1 e)
theorem TY{v:RVal}:∀{L:List RVal},ridx v L=none->v∉L
 | [],_=>by simp
 |x::r,h=>by
  unfold ridx at h
  cases hx:x.same v with
  |true=>rw[hx]at h;cases h
  |false=>
   rw[hx]at h;have h':ridx v r=none:=by simpa using h
   have:=TY h';simp only[List.mem_cons,not_or];refine⟨fun e=>?_,this⟩;subst e;rw[(RVal.same_iff v v).2 rfl]at hx;cases hx
theorem RT.num(h:RT ts K){t:Tm}{k:RVal}(hk:RK ts t k)(hw:∀n,t=.cst n->Hf n):∃ts',ts<+:ts'/\RT ts' (Gd K k).2/\RN ts' t (Gd K k).1:=by
 cases e:ridx k K with
 |some i=>
  rw[XN e];obtain⟨h1,h2⟩:=TZ e;obtain⟨s,hs⟩:=Ag (l:=ts) (k:=i) (by rw[<-h.len];exact h1);have:=RK.inj (h.key i s k hs h2) hk;subst this;exact⟨ts,List.prefix_rfl,h,i,hs,rfl⟩
 |none=>
  rw[XO e];have hni:=TY e;have hnt:t∉ts:=fun hm=>by
   obtain⟨i,hi⟩:=List.mem_iff_getElem?.1 hm;obtain⟨k',hk'⟩:=Ag (l:=K) (k:=i) gZ;have:=RK.uniq h.nd (h.key i t k' hi hk') hk;subst this;exact hni (List.mem_of_getElem? hk')
  have hp:ts<+:ts++[t]:=List.prefix_append _ _;refine⟨ts++[t],hp,⟨?_,?_,fun i s k' hs hk'=>?_,fun n hn=>?_⟩,?_⟩
  . rw[List.nodup_append];exact⟨h.nd,by simp,fun a ha b hb=>by simp at hb;subst hb;exact fun e=>hnt (e▸ha)⟩
  . simp[h.len]
  . rw[List.getElem?_append]at hs hk';exact k6
  . simp only[List.mem_append,List.mem_singleton]at hn;rcases hn with hn|hn
    . exact h.word n hn
    . exact hw n hn.symm
  . exact⟨ts.length,by simp,by rw[h.len]⟩
theorem RT.cst(h:RT ts K){t:Tm}{n:Int}(hn:RN ts t n):(∃c,t=.cst c/\Hf c/\Ey K n=(c,true))\/((∀c,t≠ .cst c)/\(Ey K n).2=false):=by
 obtain⟨i,a1,a2⟩:=hn;obtain⟨k,hk⟩:=Ag (l:=K) (k:=i) (by rw[h.len];exact(List.getElem?_eq_some_iff.1 a1).1);have hkey:=h.key i t k a1 hk;have hv:Ey K n=(k.n,k.kind==1):=by
  unfold Ey iA;rw[show n.toNat=i by omega,hk];rfl
 rw[hv]
 by_cases hc:∃c,t=.cst c
 . obtain⟨c,rfl⟩:=hc;have hk':k=⟨1,0,0,0,0,0,0,0,c⟩:=hkey;subst hk';exact .inl ⟨c,rfl,h.word c (List.mem_of_getElem? a1),rfl⟩
 . refine .inr ⟨fun c e=>hc ⟨c,e⟩,?_⟩;rw[hkey.kind.1]
   cases t<;>first|rfl|exact absurd ⟨_,rfl⟩ hc
end
def RO(ts:List Tm):Option Tm->Int->Prop
  |none,n=>n=0
  |some t,n=>RN ts t n
def RE(ts:List Tm)(e:SE)(k:REff):Prop:=∃x y,RO ts e.a x/\RO ts e.b y/\k=⟨e.op,e.k,e.base,e.size,x,y⟩
structure RS(ts:List Tm)(w:RW)(s:SS):Prop where
  t:RT ts w.L
  regs:All2 (RN ts) s.regs w.regs
  effs:All2 (RE ts) s.effs w.out
  time:w.time=s.time
section
variable {R : Nat} {ts ts' : List Tm}
theorem RO.ext(hp:ts<+:ts'):∀{t:Option Tm} {n:Int},RO ts t n->RO ts' t n
 |none,_,h=>h
 |some _,_,h=>RN.ext hp h
theorem RE.ext(hp:ts<+:ts'){e:SE}{k:REff}:RE ts e k->RE ts' e k:=fun⟨x,y,h1,h2,h3⟩=>⟨x,y,h1.ext hp,h2.ext hp,h3⟩
theorem RS.at{w:RW}{s:SS}(h:RS ts w s){z:Int}(hz:0<=z/\z<s.regs.length):RN ts (tget s.regs z) (Ah w.regs z):=by
 have hl:=h.regs.len;obtain⟨x,hx⟩:=Ag (l:=s.regs) (k:=z.toNat) Ab;obtain⟨y,hy⟩:=Ag (l:=w.regs) (k:=z.toNat) Ab;unfold tget Ah;rw[hx,hy];exact h.regs.get hx hy
theorem RS.put{w:RW}{s:SS}(h:RS ts w s)(z:Int){t:Tm}{k:RVal}(hk:RK ts t k)(hw:∀n,t=.cst n->Hf n):∃ts',ts<+:ts'/\RS ts' (w.put z (Gd w.L k)) (s.put z t):=by
 exact fB
theorem RS.eff{w:RW}{s:SS}(h:RS ts w s){e:SE}{k:REff}(he:RE ts e k):RS ts (w.eff k) (s.eff e):=⟨h.t,h.regs,h.effs.snoc he,h.time⟩
theorem RS.tick{w:RW}{s:SS}(h:RS ts w s):RS ts w.tick s.tick:=⟨h.t,h.regs,h.effs,by show w.time+1=s.time+1;rw[h.time]⟩
theorem RS.get{w:RW}{s:SS}(h:RS ts w s)(t:Tac){e:SE}{k:REff}(he:RE ts e k):∃ts',ts<+:ts'/\RS ts' (w.get t k) (s.get t e):=by
 have h1:RS ts (w.eff k) (s.eff e):=h.eff he;have:=h1.put t.d (t:=.unk s.effs.length) (k:=NJ w.out.length) (by show _=_;rw[h.effs.len]) (fun n e=>by cases e);exact this
theorem RS.risky{w:RW}{s:SS}(h:RS ts w s){t:Tac}(hb:0<=t.b/\t.b<s.regs.length):LA w t=trisky t.k (tget s.regs t.b):=by
 unfold LA trisky;congr 1;exact fO
theorem RS.apply{w:RW}{s:SS}(h:RS ts w s){t:Tac}(ha:0<=t.a/\t.a<s.regs.length)(hb:0<=t.b/\t.b<s.regs.length):
 RK ts (Da t.k (tget s.regs t.a) (tget s.regs t.b)) (HD w t)/\∀n,Da t.k (tget s.regs t.a) (tget s.regs t.b)=.cst n->Hf n:=by
 have hna:=h.at ha;have hnb:=h.at hb;have hr:=h.risky hb;have hop:∀x y:Tm,RN ts x (Ah w.regs t.a)->RN ts y (Ah w.regs t.b)->RK ts (.op t.k x y) ⟨3,t.k,Ah w.regs t.a,Ah w.regs t.b,0,0,0,0,0⟩:=fun x y h1 h2=>⟨_,_,h1,h2,rfl⟩
 rcases h.t.cst hna with⟨c,h1,h2,h3⟩|⟨h1,h2⟩
 . rcases h.t.cst hnb with⟨d,g1,g2,g3⟩|⟨g1,g2⟩
   . rw[g1]at hr;rw[h1]at hna|-;rw[g1]at hnb|-
     cases hk:trisky t.k (.cst d)with
     |true=>
      rw[hk]at hr;rw[JT (by unfold LG;rw[hr];simp)];simp only[Da,hk,cond_true];exact⟨hop _ _ hna hnb,fun n e=>by cases e⟩
     |false=>
      rw[hk]at hr;rw[Vq (by unfold LG;rw[hr,h3,g3];rfl),h3,g3];simp only[Da,hk,cond_false];exact⟨rfl,fun n e=>by cases e;exact Hv h2 g2⟩
   . rw[JT (by unfold LG;rw[g2];simp)];rw[h1]at hna|-
     cases e2:tget s.regs t.b with
     |cst d=>exact absurd e2 (g1 d)
     |_=>rw[e2]at hnb;exact⟨hop _ _ hna hnb,fun n e=>by cases e⟩
 . rw[JT (by unfold LG;rw[h2];rfl)]
   cases e1:tget s.regs t.a with
   |cst d=>exact absurd e1 (h1 d)
   |_=>rw[e1]at hna;exact⟨hop _ _ hna hnb,fun n e=>by cases e⟩
theorem RS.step{w:RW}{s:SS}(h:RS ts w s){t:Tac}(ht:MV t R)(hl:s.regs.length=R):∃ts',ts<+:ts'/\RS ts' (w.step t) (s.step t):=by
 have ha:use1 t.op=true\/use2 t.op=true->0<=t.a/\t.a<s.regs.length:=fun e=>by rw[hl];exact ht.a e
 have hb:use2 t.op=true->0<=t.b/\t.b<s.regs.length:=fun e=>by rw[hl];exact ht.b e
 have h10:t.op=1\/t.op=2\/t.op=3\/t.op=4\/t.op=5\/t.op=6\/t.op=7\/t.op=8\/t.op=9\/t.op=10:=by have:=ht.op;omega
 rcases h10 with ho|ho|ho|ho|ho|ho|ho|ho|ho|ho
 . rw[iL ho,show s.step t=s.put t.d (.cst t.n) by unfold SS.step;rw[ho];rfl];exact h.put t.d rfl (fun n e=>by cases e;exact ht.n)
 . rw[iK ho,show s.step t=s.put t.d (tget s.regs t.a) by unfold SS.step;rw[ho];rfl];exact⟨ts,List.prefix_rfl,h.t,h.regs.set (h.at (ha (.inl CH))) _,h.effs,h.time⟩
 . rw[iJ ho,show s.step t=s.bin t by unfold SS.step;rw[ho];rfl];have ha':=ha (.inr CH);have hb':=hb CH;obtain⟨hk2,hk3⟩:=h.apply ha' hb';have hr:=h.risky hb';have h1:RS ts (w.div t) (s.div t):=by
    unfold RW.div SS.div;rw[hr]
    cases trisky t.k (tget s.regs t.b)with
    |true=>exact h.eff ⟨_,_,h.at ha',h.at hb',by rw[ho]⟩
    |false=>exact h
   have:=h1.put t.d hk2 hk3;rw[iV]at this;exact this
 . rw[iI ho,show s.step t=s.put t.d (.ld t.base s.time) by unfold SS.step;rw[ho];rfl];exact h.put t.d (by show _=_;rw[h.time]) (fun n e=>by cases e)
 . rw[iH ho,show s.step t=(s.eff ⟨false,5,0,t.base,0,some (tget s.regs t.a),none⟩).tick by unfold SS.step;rw[ho];rfl];exact⟨ts,List.prefix_rfl,RS.tick (h.eff ⟨_,_,h.at (ha (.inl CH)),rfl,by rw[ho]⟩)⟩
 . rw[iG ho,show s.step t=s.get t ⟨false,6,0,t.base,t.size,some (tget s.regs t.a),none⟩ by unfold SS.step;rw[ho];rfl];exact h.get t ⟨_,_,h.at (ha (.inl CH)),rfl,by rw[ho]⟩
 . rw[iF ho,show s.step t=(s.eff ⟨false,7,0,t.base,t.size,some (tget s.regs t.a),some (tget s.regs t.b)⟩).tick by unfold SS.step;rw[ho];rfl];exact⟨ts,List.prefix_rfl,RS.tick (h.eff ⟨_,_,h.at (ha (.inr CH)),h.at (hb CH),by rw[ho]⟩)⟩
 . rw[iE ho,show s.step t=s.get t ⟨false,8,0,0,0,none,none⟩ by unfold SS.step;rw[ho];rfl];exact h.get t ⟨_,_,rfl,rfl,by rw[ho]⟩
 . rw[iD ho,show s.step t=s.eff ⟨false,9,0,0,0,some (tget s.regs t.a),none⟩ by unfold SS.step;rw[ho];rfl];exact⟨ts,List.prefix_rfl,h.eff ⟨_,_,h.at (ha (.inl CH)),rfl,by rw[ho]⟩⟩
 . have hn:∀k:Int,k≠10->(t.op==k)=false:=fun k hk=>by rw[ho];simpa using Ne.symm hk
   rw[iM (hn 1 A7) (hn 2 A7) (hn 3 A7) (hn 4 A7) (hn 5 A7) (hn 6 A7) (hn 7 A7) (hn 8 A7) (hn 9 A7),show s.step t=(s.eff ⟨false,10,0,t.base,0,none,none⟩).tick by unfold SS.step;rw[ho];rfl];exact⟨ts,List.prefix_rfl,RS.tick (h.eff ⟨_,_,rfl,rfl,by rw[ho]⟩)⟩
theorem RS.fold{l:List Tac}(hl:∀t∈l,MV t R):∀{ts:List Tm} {w:RW} {s:SS},RS ts w s->s.regs.length=R->∃ts',ts<+:ts'/\RS ts' (l.foldl RW.step w) (l.foldl SS.step s):=by
 induction l with
 |nil=>exact fun h _=>⟨_,List.prefix_rfl,h⟩
 |cons t l ih=>
  intro ts w s h hr;exact fM
theorem RE.uniq(hK:ts.Nodup){e:SE}{k k':REff}(h1:RE ts e k)(h2:RE ts e k'):k=k':=by
 obtain⟨x,y,a1,a2,a3⟩:=h1;obtain⟨x',y',b1,b2,b3⟩:=h2;have hu:∀{o:Option Tm} {n m:Int},RO ts o n->RO ts o m->n=m:=fun {o n m} g1 g2=>by
  cases o with
  |none=>exact g1.trans g2.symm
  |some t=>exact RN.uniq hK g1 g2
 grind
theorem RE.inj{e e':SE}{k:REff}(hw:e.wf)(hw':e'.wf)(h1:RE ts e k)(h2:RE ts e' k):e=e':=by
 obtain⟨x,y,a1,a2,a3⟩:=h1;obtain⟨x',y',b1,b2,b3⟩:=h2;have hso:∀{o o':Option Tm} {n:Int},o.isSome->o'.isSome->RO ts o n->RO ts o' n->o=o':=fun {o o' n} g1 g2 g3 g4=>by
  cases o with
  |none=>cases g1
  |some t=>cases o' with
   |none=>cases g2
   |some s=>rw[RN.inj (ts:=ts) g3 g4]
 obtain⟨r,o,k1,ba,si,oa,ob⟩:=e;obtain⟨r',o',k1',ba',si',oa',ob'⟩:=e';have h3:=a3.symm.trans b3;simp only[REff.mk.injEq]at h3;obtain⟨e1,e2,e3,e4,e5,e6⟩:=h3;subst e1;subst e2;subst e3;subst e4;subst e5;subst e6;have hfin:r=r'->oa=oa'->ob=ob'->(⟨r,o,k1,ba,si,oa,ob⟩:SE)=⟨r',o,k1,ba,si,oa',ob'⟩:=fun q0 q1 q2=>by rw[q0,q1,q2]
 rcases hw with⟨w1,w2,w3,w4,w5,w6⟩|⟨w1,w0,w2⟩<;>rcases hw' with⟨v1,v2,v3,v4,v5,v6⟩|⟨v1,v0,v2⟩<;>simp only at*
 . exact hfin (w1.trans v1.symm) (hso w5 v5 a1 b1) (hso w6 v6 a2 b2)
 . rcases v2 with v2|v2|v2|v2|v2|v2<;>(exfalso;have:=v2.1;omega)
 . rcases w2 with w2|w2|w2|w2|w2|w2<;>(exfalso;have:=w2.1;omega)
 . have hr:=w1.trans v1.symm;rcases w2 with⟨u1,u2,u3,u4⟩|⟨u1,u3,u4⟩|⟨u1,u3,u4⟩|⟨u1,u2,u5,u3,u4⟩|⟨u1,u2,u5,u3,u4⟩|⟨u1,u2,u3,u4⟩<;>
    rcases v2 with⟨q1,q2,q3,q4⟩|⟨q1,q3,q4⟩|⟨q1,q3,q4⟩|⟨q1,q2,q5,q3,q4⟩|⟨q1,q2,q5,q3,q4⟩|⟨q1,q2,q3,q4⟩<;>first
     |(exfalso;omega)
     |exact hfin hr (hso u3 q3 a1 b1) (u4.trans q4.symm)
     |exact hfin hr (hso u3 q3 a1 b1) (hso u4 q4 a2 b2)
     |exact hfin hr (u3.trans q3.symm) (u4.trans q4.symm)
theorem TX(row:List Bool):∀k,∃ts,RT ts (GG row k).L/\All2 (RN ts) ((List.range k).map Tm.old) (GG row k).xs/\All2 (RN ts) ((List.range k).map (EV row)) (GG row k).ys
 |0=>⟨[],⟨List.nodup_nil,rfl,fun i t k h=>by simp at h,fun n h=>by simp at h⟩,trivial,trivial⟩
 |k+1=>by
  obtain⟨ts,h1,h2,h3⟩:=TX row k;obtain⟨ts1,p1,g1,g2⟩:=h1.num (t:=.old k) (k:=RVal.reg k 0) rfl (fun n e=>by cases e);have hk2:RK ts1 (EV row k) (RVal.reg k (TQ row k)):=by
   grind[EV,TQ,GG,All2,RN,RVal.reg,RK]
  obtain⟨ts2,p2,g3,g4⟩:=g1.num (t:=EV row k) (k:=RVal.reg k (TQ row k)) hk2 (fun n e=>by
   unfold EV at e
   revert e
   cases (row[k]?).getD false<;>(intro e;cases e))
  refine⟨ts2,g3,?_,?_⟩
  . rw[List.range_succ,List.map_append];exact(h2.mono fun x y h=>(h.ext p1).ext p2).snoc (g2.ext p2)
  . rw[List.range_succ,List.map_append];exact(h3.mono fun x y h=>(h.ext p1).ext p2).snoc g4
end
theorem bC{R:Nat}{old new:Block}{c:Cert}{i:Int}{next:List Int}(ho:∀t∈old.ins,MV t R)(hn:∀t∈new.ins,MV t R)(hc:∀r∈c.same,r.length=R)(hnx:∀k∈next,0<=k/\k<c.same.length)(hv:old.fin=2->(0<=old.v/\old.v<R)/\(0<=new.v/\new.v<R)):
 TU R old new c i next=Ko R old new c i next:=by
 obtain⟨ts0,q1,q2,q3⟩:=TX (c.at' i) R;have h0:RS ts0 ⟨(GG (c.at' i) R).L,(GG (c.at' i) R).xs,[],0⟩ ⟨BF R,[],0⟩:=⟨q1,q2,trivial,rfl⟩;obtain⟨ts1,hp1,h1⟩:=RS.fold ho h0 (Em R);have h2:RS ts1 ⟨(IU R (c.at' i) old).L,(GG (c.at' i) R).ys,[],0⟩ ⟨GT R (c.at' i),[],0⟩:=⟨h1.t,q3.mono fun x y h=>h.ext hp1,trivial,rfl⟩;obtain⟨ts2,hp2,h3⟩:=RS.fold hn h2 (IP R _);have hA1:All2 (RN ts2) (BT (BF R) old.ins).regs (IU R (c.at' i) old).vw.vals:=h1.regs.mono fun x y h=>h.ext hp2
 have hA2:All2 (RE ts2) (BT (BF R) old.ins).effs (IU R (c.at' i) old).out:=h1.effs.mono fun x y h=>h.ext hp2
 have hB1:All2 (RN ts2) (BT (GT R (c.at' i)) new.ins).regs (Lz R (c.at' i) old new).vw.vals:=h3.regs;have hB2:All2 (RE ts2) (BT (GT R (c.at' i)) new.ins).effs (Lz R (c.at' i) old new).out:=h3.effs;have lA:=(IS (BF R) old.ins).trans (Em R);have lB:=(IS (GT R (c.at' i)) new.ins).trans (IP R _);have hu:∀t n m,RN ts2 t n->RN ts2 t m->n=m:=fun t n m a b=>RN.uniq h3.t.nd a b
 have hi:∀t s n,RN ts2 t n->RN ts2 s n->t=s:=fun t s n a b=>RN.inj a b
 unfold TU Ko;congr 1
 . exact decide_eq_decide.2 (MZ (r:=RE ts2) (r':=RE ts2) (p:=SE.wf) (q:=SE.wf) (fun e k k' _ a b=>RE.uniq h3.t.nd a b) (fun e e' k p q a b=>RE.inj p q a b) (KZ _ _) (KZ _ _) hA2 hB2)
 congr 1
 . by_cases hf:old.fin=2
   . rw[show(Ah (IU R (c.at' i) old).regs old.v==Ah (Lz R (c.at' i) old new).regs new.v)=_ from MU (α:=Unit) (R:=R) hu hi hA1 hB1 lA lB (hv hf).1 (hv hf).2]
   grind
 . refine Hq fun k hk=>?_
   have hkr:=hnx k hk;have hrow:(c.at' k).length=R:=by
    grind[Ag,Cert.at',List.mem_of_getElem?,TU,Ko,GG,IU,All2,RN,BT,BF,RE,GT,Lz]
   exact PT (R:=R) hu hi hA1 hB1 lA lB hrow
theorem WC{t:Tac}(h:t.callOk=true)(h10:t.op=10):t=Gv t.base/\0<=t.base:=by
 grind[Tac.callOk,Tac.same_iff,Gv]
theorem GV{f:BFunc}(h:f.stands=true){x:Block}(hx:x∈f.blocks){t:Tac}(ht:t∈x.ins)(hn:Hf t.n):MV t f.regs.toNat:=by
 have hS:=Dl h;have hv:=hS.tacs x hx t ht hn;unfold BFunc.stands at h;rw[Bool.and_eq_true]at h;obtain⟨h1,h2⟩:=h
 by_cases h10:t.op=10
 . have hok:=List.all_eq_true.1 (List.all_eq_true.1 h1 x hx) t ht;obtain⟨e,_⟩:=WC hok h10;exact⟨hv,⟨by omega,by omega⟩,fun e3=>by omega,by rw[e];rfl⟩
 . simp only[Blocks.right,Bool.and_eq_true,decide_eq_true_eq,List.all_eq_true]at h2;have h3:=h2.2.2.2 (f.bare,0) Az;simp only[BFunc.one,Bool.and_eq_true,List.all_eq_true,BFunc.bare]at h3;have h4:=h3.2.2.2 x.bare (List.mem_map.2 ⟨x,hx,rfl⟩);unfold Block.ok at h4;rw[Bool.and_eq_true,List.all_eq_true]at h4;have hf:=h4.2 t (List.mem_filter.2 ⟨ht,by simpa using h10⟩);simp only[Tac.fits,Bool.and_eq_true,decide_eq_true_eq]at hf;obtain⟨f1,f2,f3,f4,f5,f6⟩:=hf;refine⟨hv,⟨f1,f2⟩,fun e3=>?_,(Tac.same_iff _ _).1 f6⟩;unfold Tac.rest at f5;rw[show(t.op==3)=true by simp[e3]]at f5;simpa using f5
def IN(old new:BFunc)(c:Cert):Bool:=(old.blocks.zip new.blocks).zipIdx.all fun p=>Ko old.regs.toNat p.1.1 p.1.2 c (p.2:Int) p.1.1.nexts
def Lq(old new:BFunc)(c:Cert):Bool:=vshaped old new&&(decide (c.same.length=old.blocks.length)&&((c.same.all fun r=>decide ((r.length:Int)=old.regs))&&IN old new c))
def BFunc.words(f:BFunc):Prop:=∀x∈f.blocks,QW x.ins
theorem ZW{old new:BFunc}{c:Cert}(ho:old.words)(hn:new.words):Cg old new c=Lq old new c/\XV old new c=Lq old new c:=by
 unfold Cg XV Lq
 cases hs:vshaped old new with
 |false=>exact⟨rfl,rfl⟩
 |true=>
  have hV:=DT hs;have hSo:=Dl hV.so;have hSn:=Dl hV.sn;simp only[Bool.true_and]
  by_cases h1:c.same.length=old.blocks.length
  . by_cases h2:(c.same.all fun r=>decide ((r.length:Int)=old.regs))=true
    . have hR:((old.regs.toNat:Nat):Int)=old.regs:=Int.toNat_of_nonneg hSo.r0;have hc:∀r∈c.same,r.length=old.regs.toNat:=fun r hr=>by
       have:=List.all_eq_true.1 h2 r hr;simp only[decide_eq_true_eq]at this;omega
      have key:∀(p:(Block×Block)×Nat),p∈(old.blocks.zip new.blocks).zipIdx->(∀t∈p.1.1.ins,MV t old.regs.toNat)/\(∀t∈p.1.2.ins,MV t old.regs.toNat)/\(∀k∈p.1.1.nexts,0<=k/\k<c.same.length)/\(p.1.1.fin=2->(0<=p.1.1.v/\p.1.1.v<old.regs.toNat)/\(0<=p.1.2.v/\p.1.2.v<old.regs.toNat)):=by
       rintro⟨⟨x,y⟩,i⟩ hp
       obtain⟨j,hj⟩:=List.mem_iff_getElem?.1 hp;rw[List.getElem?_zipIdx,Option.map_eq_some_iff]at hj;obtain⟨q,hq,e⟩:=hj;obtain⟨x',y'⟩:=q;simp only[Nat.zero_add,Prod.mk.injEq]at e;obtain⟨⟨rfl,rfl⟩,rfl⟩:=e;rw[List.getElem?_zip_eq_some]at hq;obtain⟨hx,hy⟩:=hq;have hxm:=List.mem_of_getElem? hx;have hym:=List.mem_of_getElem? hy;have hb:=hV.b j x' y' hx hy;refine⟨fun t ht=>GV hV.so hxm ht (ho x' hxm t ht),fun t ht=>?_,fun k hk=>?_,fun hf=>?_⟩
       . rw[hV.regs];exact GV hV.sn hym ht (hn y' hym t ht)
       . rw[h1];exact hSo.next x' hxm k hk
       . dsimp only at hf|-;rw[hR];refine⟨hSo.v x' hxm hf,?_⟩;rw[hV.regs];exact hSn.v y' hym (by rw[<-hb.1];exact hf)
      constructor
      . congr 2;unfold IH IN;refine Hq fun p hp=>?_
        obtain⟨k1,k2,k3,k4⟩:=key p hp;exact bk k1 k2 hc k3 k4
      . unfold OR;rw[Bool.and_assoc];congr 2;unfold T2 IN;refine Hq fun p hp=>?_
        obtain⟨k1,k2,k3,k4⟩:=key p hp;exact bC k1 k2 hc k3 k4
    . have h2':(c.same.all fun r=>decide ((r.length:Int)=old.regs))=false:=by simpa using h2
      unfold OR;rw[h2']
      simp
  . unfold OR;rw[decide_eq_false h1];exact⟨rfl,rfl⟩
def BV(l:List Block):Nat:=(l.map fun x=>x.ins.length).sum
def E7(f:BFunc)(nb ni:Int):Bool:=decide ((f.blocks.length:Int)<=nb)&&(decide (f.regs<=40)&&decide ((BV f.blocks:Int)<=ni))
theorem Pj{l:List Block}{k:Nat}{x:Block}(h:l[k]?=some x):BV (l.take (k+1))=BV (l.take k)+x.ins.length:=XC h
theorem ST(l:List Block)(k:Nat):BV (l.take k)<=BV l:=by
 induction l generalizing k with
 |nil=>simp[BV]
 |cons x l ih=>
  cases k with
  |zero=>simp[BV]
  |succ k=>
   have:=ih k;simp only[BV,List.take_succ_cons,List.map_cons,List.sum_cons]at this|-;omega
structure Cert.Ok(c:Cert):Prop where
  len:c.same.length*24<=reachBytes
  rows:∀r∈c.same,r.length*1<=reachBytes
def Tm.ren(row:List Bool):Tm->Tm
  | .old v=>EV row v
  | .own v=>.own v
  | .cst n=>.cst n
  | .op k a b=>.op k (a.ren row) (b.ren row)
  | .ld b τ=>.ld b τ
  | .unk n=>.unk n
def Tm.pure(R:Nat):Tm->Prop
  | .old v=>v<R
  | .own _=>False
  | .op _ a b=>a.pure R/\b.pure R
  |_=>True
def Tm.inR(row:List Bool):Tm->Prop
  | .old v=>row[v]?=some true
  | .own _=>False
  | .op _ a b=>a.inR row/\b.inR row
  |_=>True
theorem Tm.ren_iff{R:Nat}{row:List Bool}(hr:row.length=R):∀{t s:Tm},t.pure R->s.pure R->(s=t.ren row↔s=t/\t.inR row)
 | .old v,s,ht,hs=>by
  have hv:v<row.length:=by rw[hr];exact ht
  obtain⟨b,hb⟩:=Ag hv;have e:(Tm.old v).ren row=EV row v:=rfl;have hi:(Tm.old v).inR row↔row[v]?=some true:=Iff.rfl;rw[e,hi,hb];unfold EV;rw[hb]
  cases b with
  |true=>simp
  |false=>
   simp only[Option.getD_some,cond_false,Option.some.injEq,Bool.false_eq_true,and_false,iff_false];intro h;subst h;exact hs.elim
 | .own v,s,ht,hs=>ht.elim
 | .cst n,s,ht,hs=>by simp[Tm.ren,Tm.inR]
 | .ld b τ,s,ht,hs=>by simp[Tm.ren,Tm.inR]
 | .unk n,s,ht,hs=>by simp[Tm.ren,Tm.inR]
 | .op k a b,s,ht,hs=>by
  constructor
  . intro h
    cases s with
    |op k' a' b'=>
     simp only[Tm.ren,Tm.op.injEq]at h;obtain⟨h1,h2,h3⟩:=h;obtain⟨g1,g2⟩:=(Tm.ren_iff hr ht.1 hs.1).1 h2;obtain⟨g3,g4⟩:=(Tm.ren_iff hr ht.2 hs.2).1 h3;exact⟨by rw[h1,g1,g3],g2,g4⟩
    |_=>simp[Tm.ren]at h
  . rintro⟨rfl,h1,h2⟩
    simp only[Tm.ren,Tm.op.injEq,true_and];exact⟨(Tm.ren_iff hr ht.1 ht.1).2 ⟨rfl,h1⟩,(Tm.ren_iff hr ht.2 ht.2).2 ⟨rfl,h2⟩⟩
def VB(row:List Bool):Option Tm->Option Tm:=Option.map (Tm.ren row)
def SE.ren(row:List Bool)(e:SE):SE:={e with a:=VB row e.a,b:=VB row e.b}
def T9(R:Nat):Option Tm->Prop
  |none=>True
  |some t=>t.pure R
def Yv(row:List Bool):Option Tm->Prop
  |none=>True
  |some t=>t.inR row
def SE.pure(R:Nat)(e:SE):Prop:=T9 R e.a/\T9 R e.b
def SE.inR(row:List Bool)(e:SE):Prop:=Yv row e.a/\Yv row e.b
theorem Qz{R:Nat}{row:List Bool}(hr:row.length=R){t s:Option Tm}(ht:T9 R t)(hs:T9 R s):s=VB row t↔s=t/\Yv row t:=by
 cases t with
 |none=>simp[VB,Yv]
 |some t=>
  cases s with
  |none=>simp[VB]
  |some s=>
   simp only[VB,Option.map_some,Option.some.injEq];exact Tm.ren_iff hr ht hs
theorem SE.ren_iff{R:Nat}{row:List Bool}(hr:row.length=R){e f:SE}(he:e.pure R)(hf:f.pure R):f=e.ren row↔f=e/\e.inR row:=by
 have h1:=Qz hr he.1 hf.1;have h2:=Qz hr he.2 hf.2
 cases e with
 |mk r o k ba si a b=>
  cases f with
  |mk r' o' k' ba' si' a' b'=>
   simp only[SE.ren,SE.mk.injEq,SE.inR]at h1 h2|-;rw[h1,h2];constructor
   . rintro⟨e1,e2,e3,e4,e5,⟨e6,e7⟩,e8,e9⟩;exact⟨⟨e1,e2,e3,e4,e5,e6,e8⟩,e7,e9⟩
   . rintro⟨⟨e1,e2,e3,e4,e5,e6,e8⟩,e7,e9⟩;exact⟨e1,e2,e3,e4,e5,⟨e6,e7⟩,e8,e9⟩
theorem Rl{R:Nat}{row:List Bool}(hr:row.length=R):∀{l m:List SE},(∀e∈l,e.pure R)->(∀e∈m,e.pure R)->(l=m.map (SE.ren row)↔l=m/\∀e∈m,e.inR row)
 | [],[],_,_=>by simp
 | [],e::m,_,_=>by simp
 |f::l,[],_,_=>by simp
 |f::l,e::m,hl,hm=>by
  have ih:=Rl hr (l:=l) (m:=m) (fun x hx=>hl x Lc) (fun x hx=>hm x Lc);have h1:=SE.ren_iff hr (hm e Az) (hl f Az)
  grind
def SS.ren(row:List Bool)(s:SS):SS:=⟨s.regs.map (Tm.ren row),s.effs.map (SE.ren row),s.time⟩
structure SS.pure(R:Nat)(s:SS):Prop where
  regs:∀t∈s.regs,t.pure R
  effs:∀e∈s.effs,e.pure R
theorem P0(row:List Bool)(l:List Tm)(z:Int):tget (l.map (Tm.ren row)) z=(tget l z).ren row:=by
 grind[tget,Tm.ren]
theorem Xw(row:List Bool)(l:List Tm)(z:Int)(t:Tm):tset (l.map (Tm.ren row)) z (t.ren row)=(tset l z t).map (Tm.ren row):=by
 unfold tset;rw[List.map_set]
theorem Lw(row:List Bool)(v:Nat):EV row v=.old v\/EV row v=.own v:=by
 grind[EV]
theorem Nh(row:List Bool)(t:Tm):(t.ren row).isZero=t.isZero:=by
 cases t with
 |old v=>rcases Lw row v with h|h<;>(show(EV row v).isZero=true;rw[h];rfl)
 |_=>rfl
theorem Vf(row:List Bool)(k:Int)(a b:Tm):Da k (a.ren row) (b.ren row)=(Da k a b).ren row:=by
 have hop:∀x y:Tm,(∀n,x≠ .cst n)\/(∀n,y≠ .cst n)->Da k x y=.op k x y:=fun x y h=>by
  cases x<;>cases y<;>first|rfl|(exfalso;rcases h with h|h<;>exact h _ rfl)
 have hne:∀t:Tm,(∀n,t≠ .cst n)->∀n,t.ren row≠ .cst n:=fun t h n e=>by
  cases t with
  |old v=>rcases Lw row v with g|g<;>(rw[show(Tm.old v).ren row=EV row v from rfl,g]at e;cases e)
  |cst m=>exact h m rfl
  |_=>cases e
 by_cases ha:∃x,a=.cst x
 . obtain⟨x,rfl⟩:=ha
   by_cases hb:∃y,b=.cst y
   . obtain⟨y,rfl⟩:=hb;show Da k (.cst x) (.cst y)=_;simp only[Da]
     cases trisky k (.cst y)<;>rfl
   . have hb':∀n,b≠ .cst n:=fun n e=>hb ⟨n,e⟩
     rw[hop _ _ (.inr hb'),hop _ _ (.inr (hne b hb'))];rfl
 . have ha':∀n,a≠ .cst n:=fun n e=>ha ⟨n,e⟩
   rw[hop _ _ (.inl ha'),hop _ _ (.inl (hne a ha'))];rfl
theorem R7(row:List Bool)(k:Int)(b:Tm):trisky k (b.ren row)=trisky k b:=by unfold trisky;rw[Nh]
theorem Fa(row:List Bool)(s:SS)(z:Int)(t:Tm):(s.ren row).put z (t.ren row)=(s.put z t).ren row:=by
 grind[SS.put,SS.ren,Xw]
theorem Ec(row:List Bool)(s:SS)(e:SE):(s.ren row).eff (e.ren row)=(s.eff e).ren row:=by
 simp[SS.eff,SS.ren]
theorem MX(row:List Bool)(s:SS)(t:Tac)(e:SE):(s.ren row).get t (e.ren row)=(s.get t e).ren row:=by
 unfold SS.get;rw[Ec,<-Fa];simp[SS.ren,Tm.ren]
theorem Ru(row:List Bool)(s:SS)(t:Tac):(s.ren row).step t=(s.step t).ren row:=by
 have hg:∀z,tget (s.ren row).regs z=(tget s.regs z).ren row:=fun z=>P0 row s.regs z
 unfold SS.step
 cases t.op==1 with
 |true=>exact Fa row s t.d (.cst t.n)
 |false=>
 cases t.op==2 with
 |true=>simp only[cond_true,cond_false];rw[hg];exact Fa row s t.d _
 |false=>
 cases t.op==3 with
 |true=>
  simp only[cond_true,cond_false];unfold SS.bin;have hd:(s.ren row).div t=(s.div t).ren row:=by
   unfold SS.div;rw[hg,hg,R7]
   cases trisky t.k (tget s.regs t.b)with
   |true=>exact Ec row s ⟨true,3,t.k,0,0,some (tget s.regs t.a),some (tget s.regs t.b)⟩
   |false=>rfl
  rw[hd,hg,hg,Vf];exact Fa row (s.div t) t.d _
 |false=>
 cases t.op==4 with
 |true=>exact Fa row s t.d (.ld t.base s.time)
 |false=>
 cases t.op==5 with
 |true=>
  simp only[cond_true,cond_false];rw[hg];exact congrArg SS.tick (Ec row s ⟨false,5,0,t.base,0,some (tget s.regs t.a),none⟩)
 |false=>
 cases t.op==6 with
 |true=>
  simp only[cond_true,cond_false];rw[hg];exact MX row s t ⟨false,6,0,t.base,t.size,some (tget s.regs t.a),none⟩
 |false=>
 cases t.op==7 with
 |true=>
  simp only[cond_true,cond_false];rw[hg,hg];exact congrArg SS.tick (Ec row s ⟨false,7,0,t.base,t.size,some (tget s.regs t.a),some (tget s.regs t.b)⟩)
 |false=>
 cases t.op==8 with
 |true=>exact MX row s t ⟨false,8,0,0,0,none,none⟩
 |false=>
 cases t.op==9 with
 |true=>
  simp only[cond_true,cond_false];rw[hg];exact Ec row s ⟨false,9,0,0,0,some (tget s.regs t.a),none⟩
 |false=>exact congrArg SS.tick (Ec row s ⟨false,10,0,t.base,0,none,none⟩)
theorem XG(R:Nat)(row:List Bool)(l:List Tac):BT (GT R row) l=(BT (BF R) l).ren row:=by
 have h0:(⟨GT R row,[],0⟩:SS)=(⟨BF R,[],0⟩:SS).ren row:=by
  simp[SS.ren,GT,BF,Tm.ren]
 unfold BT;rw[h0];generalize(⟨BF R,[],0⟩:SS)=s
 induction l generalizing s with
 |nil=>rfl
 |cons t l ih=>rw[List.foldl_cons,List.foldl_cons,Ru,ih]
theorem JL{R:Nat}{l:List Tm}(h:∀t∈l,t.pure R)(z:Int):(tget l z).pure R:=by
 exact eK
theorem Vc{R:Nat}{l:List Tm}(h:∀t∈l,t.pure R)(z:Int){t:Tm}(ht:t.pure R):∀x∈tset l z t,x.pure R:=fun x hx=>by
 grind[tset]
theorem R9{R:Nat}{k:Int}{a b:Tm}(ha:a.pure R)(hb:b.pure R):(Da k a b).pure R:=by
 have hop:(Tm.op k a b).pure R:=⟨ha,hb⟩;exact ko
theorem SS.pure.put_pure{R:Nat}{s:SS}(h:s.pure R)(z:Int){t:Tm}(ht:t.pure R):(s.put z t).pure R:=⟨Vc h.regs z ht,h.effs⟩
theorem SS.pure.eff_pure{R:Nat}{s:SS}(h:s.pure R){e:SE}(he:e.pure R):(s.eff e).pure R:=⟨h.regs,fun x hx=>by
 have hx':x∈s.effs++[e]:=hx;simp only[List.mem_append,List.mem_singleton]at hx';rcases hx' with hx'|rfl
 . exact h.effs x hx'
 . exact he⟩
theorem SS.pure.step_pure{R:Nat}{s:SS}(h:s.pure R)(t:Tac):(s.step t).pure R:=by
 have hg:=fun z=>JL h.regs z
 have hp:=fun(z:Int) (t:Tm) (ht:t.pure R)=>h.put_pure z ht
 unfold SS.step
 cases t.op==1 with
 |true=>exact hp _ (.cst t.n) trivial
 |false=>
 cases t.op==2 with
 |true=>exact hp _ _ (hg _)
 |false=>
 cases t.op==3 with
 |true=>
  have hd:(s.div t).pure R:=by
   unfold SS.div
   cases trisky t.k (tget s.regs t.b)with
   |true=>exact h.eff_pure ⟨hg _,hg _⟩
   |false=>exact h
  exact hd.put_pure _ (R9 (hg _) (hg _))
 |false=>
 cases t.op==4 with
 |true=>exact hp _ (.ld t.base s.time) trivial
 |false=>
 cases t.op==5 with
 |true=>exact⟨(h.eff_pure (e:=⟨false,5,0,t.base,0,some (tget s.regs t.a),none⟩) ⟨hg _,trivial⟩).regs,(h.eff_pure (e:=⟨false,5,0,t.base,0,some (tget s.regs t.a),none⟩) ⟨hg _,trivial⟩).effs⟩
 |false=>
 cases t.op==6 with
 |true=>exact(h.eff_pure (e:=⟨false,6,0,t.base,t.size,some (tget s.regs t.a),none⟩) ⟨hg _,trivial⟩).put_pure _ (t:=.unk s.effs.length) trivial
 |false=>
 cases t.op==7 with
 |true=>exact⟨(h.eff_pure (e:=⟨false,7,0,t.base,t.size,some (tget s.regs t.a),some (tget s.regs t.b)⟩) ⟨hg _,hg _⟩).regs,(h.eff_pure (e:=⟨false,7,0,t.base,t.size,some (tget s.regs t.a),some (tget s.regs t.b)⟩) ⟨hg _,hg _⟩).effs⟩
 |false=>
 cases t.op==8 with
 |true=>exact(h.eff_pure (e:=⟨false,8,0,0,0,none,none⟩) ⟨trivial,trivial⟩).put_pure _ (t:=.unk s.effs.length) trivial
 |false=>
 cases t.op==9 with
 |true=>exact h.eff_pure ⟨hg _,trivial⟩
 |false=>exact⟨(h.eff_pure (e:=⟨false,10,0,t.base,0,none,none⟩) ⟨trivial,trivial⟩).regs,(h.eff_pure (e:=⟨false,10,0,t.base,0,none,none⟩) ⟨trivial,trivial⟩).effs⟩
theorem NH(R:Nat)(l:List Tac):(BT (BF R) l).pure R:=by
 unfold BT;have h0:(⟨BF R,[],0⟩:SS).pure R:=⟨fun t ht=>by
  simp only[BF,List.mem_map,List.mem_range]at ht;obtain⟨v,hv,rfl⟩:=ht;exact hv,fun e he=>by simp at he⟩
 generalize(⟨BF R,[],0⟩:SS)=s at*
 induction l generalizing s with
 |nil=>exact h0
 |cons t l ih=>exact ih _ (h0.step_pure t)
def Up(R:Nat)(x y:Block)(c:Cert)(i:Int)(next:List Int):Prop:=
  (BT (BF R) x.ins).effs=(BT (BF R) y.ins).effs/\(∀e∈(BT (BF R) y.ins).effs,e.inR (c.at' i))/\
  (x.fin=2->tget (BT (BF R) x.ins).regs x.v=tget (BT (BF R) y.ins).regs y.v/\(tget (BT (BF R) y.ins).regs y.v).inR (c.at' i))/\
  ∀k∈next,∀j:Nat,(c.at' k)[j]?=some true->tget (BT (BF R) x.ins).regs (j:Int)=tget (BT (BF R) y.ins).regs (j:Int)/\(tget (BT (BF R) y.ins).regs (j:Int)).inR (c.at' i)
theorem Sc{x y:List Tm}{row:List Bool}:Lr x y row=true↔ ∀j:Nat,row[j]?=some true->tget x (j:Int)=tget y (j:Int):=by
 unfold Lr;rw[List.all_eq_true];constructor
 . intro h j hb;have:=h (true,j) (List.mem_of_getElem? (Bl hb));simpa using this
 . rintro h ⟨b,j⟩ hp
   obtain⟨i,hi⟩:=List.mem_iff_getElem?.1 hp;rw[List.getElem?_zipIdx,Option.map_eq_some_iff]at hi;obtain⟨b',hb',e⟩:=hi;simp only[Nat.zero_add,Prod.mk.injEq]at e;obtain⟨rfl,rfl⟩:=e
   cases b' with
   |false=>rfl
   |true=>simpa using h _ hb'
theorem NB{R:Nat}{x y:Block}{c:Cert}{i:Int}{next:List Int}(hr:(c.at' i).length=R):Ko R x y c i next=true↔Up R x y c i next:=by
 have hx:=NH R x.ins;have hy:=NH R y.ins;unfold Ko Up;rw[XG,Bool.and_eq_true,Bool.and_eq_true,decide_eq_true_eq,List.all_eq_true];have h1:(BT (BF R) x.ins).effs=((BT (BF R) y.ins).ren (c.at' i)).effs↔_:=Rl hr hx.effs hy.effs;rw[h1,and_assoc];refine and_congr_right fun _=>and_congr_right fun _=>?_
 have h2:∀z z',tget (BT (BF R) x.ins).regs z=tget ((BT (BF R) y.ins).ren (c.at' i)).regs z'↔tget (BT (BF R) x.ins).regs z=tget (BT (BF R) y.ins).regs z'/\(tget (BT (BF R) y.ins).regs z').inR (c.at' i):=fun z z'=>by
  rw[show((BT (BF R) y.ins).ren (c.at' i)).regs=(BT (BF R) y.ins).regs.map (Tm.ren (c.at' i))from rfl,P0];exact Tm.ren_iff hr (JL hy.regs _) (JL hx.regs _)
 refine and_congr ?_ (forall_congr' fun k=>imp_congr_right fun _=>?_)
 . rw[Bool.or_eq_true,decide_eq_true_eq,h2]
   by_cases hf:x.fin=2
   . simp[hf]
   . simp[hf]
 . rw[Sc];exact forall_congr' fun j=>imp_congr_right fun _=>h2 _ _
structure Tr(old new:BFunc)(c:Cert):Prop where
  sh:vshaped old new=true
  len:c.same.length=old.blocks.length
  rows:∀r∈c.same,(r.length:Int)=old.regs
  b:∀(k:Nat) (x y:Block),old.blocks[k]?=some x->new.blocks[k]?=some y->Up old.regs.toNat x y c (k:Int) x.nexts
theorem ZZ{c:Cert}{R:Nat}(h:∀r∈c.same,r.length=R){k:Int}(hk:0<=k/\k<c.same.length):(c.at' k).length=R:=by
 grind[Ag,Cert.at',List.mem_of_getElem?]
theorem Sb{old new:BFunc}{c:Cert}:Lq old new c=true↔Tr old new c:=by
 unfold Lq;simp only[Bool.and_eq_true,decide_eq_true_eq,List.all_eq_true];have key:vshaped old new=true->c.same.length=old.blocks.length->(∀r∈c.same,(r.length:Int)=old.regs)->∀(k:Nat) (x:Block),old.blocks[k]?=some x->(c.at' (k:Int)).length=old.regs.toNat:=fun hs hl hr k x hx=>by
  have h0:=(Dl (DT hs).so).r0;have hk:=(List.getElem?_eq_some_iff.1 hx).1;exact ZZ (fun r h=>by have:=hr r h;omega) Ab
 constructor
 . rintro⟨h1,h2,h3,h4⟩
   refine⟨h1,h2,h3,fun k x y hx hy=>?_⟩;unfold IN at h4;rw[List.all_eq_true]at h4;exact(NB (key h1 h2 h3 k x hx)).1 (h4 ((x,y),k) (List.mem_of_getElem? (Bl (JG hx hy))))
 . rintro⟨h1,h2,h3,h4⟩
   refine⟨h1,h2,h3,?_⟩;unfold IN;rw[List.all_eq_true]
   rintro⟨⟨x,y⟩,i⟩ hp
   obtain⟨j,hj⟩:=List.mem_iff_getElem?.1 hp;rw[List.getElem?_zipIdx,Option.map_eq_some_iff]at hj;obtain⟨q,hq,e⟩:=hj;obtain⟨x',y'⟩:=q;simp only[Nat.zero_add,Prod.mk.injEq]at e;obtain⟨⟨rfl,rfl⟩,rfl⟩:=e;rw[List.getElem?_zip_eq_some]at hq;exact(NB (key h1 h2 h3 j x' hq.1)).2 (h4 j x' y' hq.1 hq.2)
theorem R4{old new:BFunc}{c:Cert}(ho:old.words)(hn:new.words):Cg old new c=true↔Tr old new c:=by
 grind[ZW,Sb,Cg]
structure Mach.Le(m m':Mach):Prop where
  words:m'.words=m.words
  out:m'.out=m.out
  read:m'.read=m.read
  fin:m'.fin=m.fin
  steps:m'.steps<=m.steps
def Mach.Sim(x y:Mach):Prop:=x.fin=5\/x.Le y
theorem Mach.Le.trans{x y z:Mach}(h:x.Le y)(h':y.Le z):x.Le z:=⟨h'.words.trans h.words,h'.out.trans h.out,h'.read.trans h.read,h'.fin.trans h.fin,Nat.le_trans h'.steps h.steps⟩
theorem Mach.Sim.trans{x y z:Mach}(h:x.Sim y)(h':y.Sim z):x.Sim z:=by
 rcases h with h|h
 . exact .inl h
 . rcases h' with h'|h'
   . exact .inl (h.fin.symm.trans h')
   . exact .inr (h.trans h')
theorem Mach.Le.refl(m:Mach):m.Le m:=⟨rfl,rfl,rfl,rfl,Nat.le_refl _⟩
section
variable {call call' : Int -> Mach -> Mach} {s : ByteArray} {fuel : Int}
theorem Kx{m:Mach}(h:(Bu fuel m).1=false):(Bu fuel m).2.fin=5:=by
 grind[Bu]
def CW(call call':Int->Mach->Mach)(ok:Int->Prop):Prop:=∀i m m',ok i->m.fin=0->m.Le m'->(call i m).Sim (call' i m')
theorem QK{ok:Int->Prop}(hc:CW call call' ok)(t:Tac)(ht:t.op=10->ok t.base)(regs:List Int){m m':Mach}(h0:m.fin=0)(h:m.Le m'):
 (AB call s t regs m).1=(AB call' s t regs m').1/\(AB call s t regs m).2.Sim (AB call' s t regs m').2:=by
 obtain⟨w,o,r,st,f⟩:=m;obtain⟨w',o',r',st',f'⟩:=m';obtain⟨h1,h2,h3,h4,h5⟩:=h;simp only at h1 h2 h3 h4 h5;subst h1;subst h2;subst h3;subst h4;have hle:∀(a:List Int) (b:List UInt8) (c:Nat) (d:Int),Mach.Le ⟨a,b,c,st,d⟩ ⟨a,b,c,st',d⟩:=fun a b c d=>⟨rfl,rfl,rfl,rfl,h5⟩
 unfold AB
 cases t.op==1 with
 |true=>exact⟨rfl,.inr (hle _ _ _ _)⟩
 |false=>
 cases t.op==2 with
 |true=>exact⟨rfl,.inr (hle _ _ _ _)⟩
 |false=>
 cases t.op==3 with
 |true=>
  simp only[cond_true,cond_false]
  cases (B1 t.k (Ah regs t.a) (Ah regs t.b)).2==0<;>exact⟨rfl,.inr (hle _ _ _ _)⟩
 |false=>
 cases t.op==4 with
 |true=>exact⟨rfl,.inr (hle _ _ _ _)⟩
 |false=>
 cases t.op==5 with
 |true=>exact⟨rfl,.inr (hle _ _ _ _)⟩
 |false=>
 cases t.op==6 with
 |true=>
  exact eS
 |false=>
 cases t.op==7 with
 |true=>
  exact eS
 |false=>
 cases t.op==8 with
 |true=>
  simp only[cond_true,cond_false]
  cases decide (r'<s.size)<;>exact⟨rfl,.inr (hle _ _ _ _)⟩
 |false=>
 cases t.op==9 with
 |true=>
  simp only[cond_true,cond_false]
  cases decide (o'.length>=65536)<;>exact⟨rfl,.inr (hle _ _ _ _)⟩
 |false=>
 cases h10:t.op==10 with
 |true=>exact⟨rfl,hc _ _ _ (ht (by simpa using h10)) h0 (hle _ _ _ _)⟩
 |false=>exact⟨rfl,.inr (hle _ _ _ _)⟩
def jx(X Y:Bool×List Int×Mach):Prop:=X.1=false/\X.2.2.fin=5\/X.1=Y.1/\X.2.1=Y.2.1/\X.2.2.Le Y.2.2/\(X.1=true->X.2.2.fin=0)/\(X.1=false->X.2.2.fin≠0)
def Dr(fuel:Int)(g:Nat)(m:Mach):Prop:=fuel.toNat<m.steps+g
end
structure Core where
  words:List Int
  out:List UInt8
  read:Nat
  cnt:Nat
def Mach.core(m:Mach):Core:=⟨m.words,m.out,m.read,m.steps⟩
structure EH where
  mems:List (List Int)
  unks:List Int
  core:Core
def ev(ρ:List Int)(h:EH):Tm->Int
  | .old v=>Ah ρ (v:Int)
  | .own _=>0
  | .cst n=>n
  | .op k a b=>(B1 k (ev ρ h a) (ev ρ h b)).1
  | .ld b τ=>Ah ((h.mems[τ.toNat]?).getD []) b
  | .unk n=>(h.unks[n]?).getD 0
def gd(ρ:List Int)(h:EH):Option Tm->Int
  |none=>0
  |some t=>ev ρ h t
def Tm.sc(n m:Nat):Tm->Prop
  | .op _ a b=>a.sc n m/\b.sc n m
  | .ld _ τ=>τ.toNat<m
  | .unk k=>k<n
  |_=>True
structure EH.Ext(h h':EH):Prop where
  mems:∃l,h'.mems=h.mems++l
  unks:∃l,h'.unks=h.unks++l
theorem GB{n m n' m':Nat}(hn:n<=n')(hm:m<=m'):∀{t:Tm},t.sc n m->t.sc n' m'
 | .op _ a b,h=>⟨GB hn hm h.1,GB hn hm h.2⟩
 | .ld _ τ,h=>Nat.lt_of_lt_of_le (show τ.toNat<m from h) hm
 | .unk k,h=>Nat.lt_of_lt_of_le (show k<n from h) hn
 | .old _,_=>trivial
 | .own _,_=>trivial
 | .cst _,_=>trivial
theorem Pq{ρ:List Int}{h h':EH}(hx:h.Ext h'):∀{t:Tm},t.sc h.unks.length h.mems.length->ev ρ h' t=ev ρ h t
 | .op k a b,hs=>by
  show(B1 k (ev ρ h' a) (ev ρ h' b)).1=_;rw[Pq hx hs.1,Pq hx hs.2];rfl
 | .ld b τ,hs=>by
  obtain⟨l,hl⟩:=hx.mems;show Ah ((h'.mems[τ.toNat]?).getD []) b=Ah ((h.mems[τ.toNat]?).getD []) b;rw[hl,List.getElem?_append_left hs]
 | .unk k,hs=>by
  obtain⟨l,hl⟩:=hx.unks;show(h'.unks[k]?).getD 0=(h.unks[k]?).getD 0;rw[hl,List.getElem?_append_left hs]
 | .old _,_=>rfl
 | .own _,_=>rfl
 | .cst _,_=>rfl
def GA(ρ ρ':List Int)(row:List Bool):Prop:=∀j:Nat,row[j]?=some true->Ah ρ (j:Int)=Ah ρ' (j:Int)
theorem Pp{ρ ρ':List Int}{h:EH}{row:List Bool}(ha:GA ρ ρ' row):∀{t:Tm},t.inR row->ev ρ h t=ev ρ' h t
 | .old v,hi=>ha v hi
 | .own _,hi=>hi.elim
 | .op k a b,hi=>by
  show(B1 k (ev ρ h a) (ev ρ h b)).1=(B1 k (ev ρ' h a) (ev ρ' h b)).1;rw[Pp ha hi.1,Pp ha hi.2]
 | .cst _,_=>rfl
 | .ld _ _,_=>rfl
 | .unk _,_=>rfl
theorem Ud{ρ ρ':List Int}{h:EH}{row:List Bool}(ha:GA ρ ρ' row){t:Option Tm}(hi:Yv row t):gd ρ h t=gd ρ' h t:=by
 cases t with
 |none=>rfl
 |some t=>exact Pp ha hi
inductive aE where
  |ok (h:EH)
  |stop (f:Int) (c:Core)
def EH.no(h:EH)(c:Core)(u:Int):EH:=⟨h.mems,h.unks++[u],c⟩
def EH.yes(h:EH)(c:Core)(u:Int):EH:=⟨h.mems++[c.words],h.unks++[u],c⟩
theorem EH.ext_no(h:EH)(c:Core)(u:Int):h.Ext (h.no c u):=⟨⟨[],by simp[EH.no]⟩,⟨[u],rfl⟩⟩
theorem EH.ext_yes(h:EH)(c:Core)(u:Int):h.Ext (h.yes c u):=⟨⟨[c.words],rfl⟩,⟨[u],rfl⟩⟩
def fx(s:ByteArray)(op k base size va vb:Int)(h:EH):aE:=
  bif op==3 then(bif (B1 k va vb).2==0 then .ok (h.no h.core 0)else .stop 2 h.core)
  else bif op==5 then .ok (h.yes ⟨Bi h.core.words base va,h.core.out,h.core.read,h.core.cnt⟩ 0)
  else bif op==6 then(bif decide (va>=size)then .stop 3 h.core else .ok (h.no h.core (Ah h.core.words (base+va))))
  else bif op==7 then(bif decide (va>=size)then .stop 3 h.core else .ok (h.yes ⟨Bi h.core.words (base+va) vb,h.core.out,h.core.read,h.core.cnt⟩ 0))
  else bif op==8 then(bif decide (h.core.read<s.size)then .ok (h.no ⟨h.core.words,h.core.out,h.core.read+1,h.core.cnt⟩ ((KU s h.core.read).toNat:Int))else .ok (h.no h.core 256))
  else(bif decide (h.core.out.length>=65536)then .stop 4 h.core else .ok (h.no ⟨h.core.words,h.core.out++[FD va],h.core.read,h.core.cnt⟩ 0))
def iP(m:Mach)(h:EH):aE:=bif m.fin==0 then .ok (h.yes m.core 0)else .stop m.fin m.core
section
variable (call : Int -> Mach -> Mach) (s : ByteArray) (ρ : List Int)
def WS(e:SE)(h:EH)(r:aE):Prop:=
  (e.op=10/\∃m:Mach,m.core=h.core/\m.fin=0/\r=iP (call e.base m) h)\/(e.op≠10/\r=fx s e.op e.k e.base e.size (gd ρ h e.a) (gd ρ h e.b) h)
def We:List SE->EH->aE->Prop
  | [],h,r=>r=.ok h
  |e::l,h,r=>∃r1,WS call s ρ e h r1/\match r1 with
    | .ok h1=>We l h1 r
    | .stop f c=>r=.stop f c
end
section
variable {call call' : Int -> Mach -> Mach} {s : ByteArray} {ρ ρ' : List Int}
theorem dB{e:SE}{h:EH}{r:aE}(hr:WS call s ρ e h r):We call s ρ [e] h r:=⟨r,hr,by cases r<;>rfl⟩
theorem Q6{f:Int}{c:Core}:∀{l l2:List SE} {h:EH},We call s ρ l h (.stop f c)->We call s ρ (l++l2) h (.stop f c)
 | [],l2,h,hr=>by cases hr
 |e::l,l2,h,⟨r1,h1,h2⟩=>by
  refine⟨r1,h1,?_⟩
  cases r1 with
  |ok h1'=>exact Q6 h2
  |stop f' c'=>exact h2
theorem Ut{h':EH}{r:aE}:∀{l l2:List SE} {h:EH},We call s ρ l h (.ok h')->We call s ρ l2 h' r->We call s ρ (l++l2) h r
 | [],l2,h,hr,h2=>by cases hr;exact h2
 |e::l,l2,h,⟨r1,h1,h2⟩,h3=>by
  refine⟨r1,h1,?_⟩
  cases r1 with
  |ok h1'=>exact Ut h2 h3
  |stop f' c'=>cases h2
theorem Me{m m':Mach}(h1:m.core=m'.core)(h2:m.fin=m'.fin):m=m':=by
 obtain⟨a,b,c,d,e⟩:=m;obtain⟨a',b',c',d',e'⟩:=m';unfold Mach.core at h1;simp only[Core.mk.injEq]at h1;obtain⟨h3,h4,h5,h6⟩:=h1;subst h3;subst h4;subst h5;subst h6;have h2:e=e':=h2;subst h2;rfl
def K8(call call':Int->Mach->Mach)(ok:Int->Prop):Prop:=∀i m,ok i->m.fin=0->call i m=call' i m
theorem dC{ok:Int->Prop}(hc:K8 call call' ok){e:SE}(he:e.op=10->ok e.base){h:EH}(ha:gd ρ h e.a=gd ρ' h e.a)(hb:gd ρ h e.b=gd ρ' h e.b){r r':aE}(h1:WS call s ρ e h r)(h2:WS call' s ρ' e h r'):r=r':=by
 rcases h1 with⟨e1,m,c1,f1,rfl⟩|⟨e1,rfl⟩
 . rcases h2 with⟨e2,m',c2,f2,rfl⟩|⟨e2,_⟩
   . rw[hc e.base m (he e1) f1,Me (c1.trans c2.symm) (f1.trans f2.symm)]
   . exact absurd e1 e2
 . rcases h2 with⟨e2,_⟩|⟨e2,rfl⟩
   . exact absurd e2 e1
   . rw[ha,hb]
theorem Ur{ok:Int->Prop}(hc:K8 call call' ok){row:List Bool}(hr:GA ρ ρ' row):∀{l:List SE},(∀e∈l,e.op=10->ok e.base)->(∀e∈l,e.inR row)->∀{h:EH} {r r':aE},We call s ρ l h r->We call' s ρ' l h r'->r=r'
 | [],_,_,h,r,r',h1,h2=>by cases h1;cases h2;rfl
 |e::l,ho,hi,h,r,r',⟨r1,a1,a2⟩,⟨r1',b1,b2⟩=>by
  have hie:=hi e Az;have g:=dC hc (ho e Az) (Ud hr hie.1) (Ud hr hie.2) a1 b1;subst g
  cases r1 with
  |ok h1=>exact Ur hc hr (fun e he=>ho e (by simp[he])) (fun e he=>hi e (by simp[he])) a2 b2
  |stop f c=>exact a2.trans b2.symm
end
structure Inv(ρ:List Int)(S:SS)(regs:List Int)(m:Mach)(h:EH):Prop where
  len:regs.length=S.regs.length
  reg:∀z,Ah regs z=ev ρ h (tget S.regs z)
  sc:∀t∈S.regs,t.sc h.unks.length h.mems.length
  core:h.core=m.core
  un:h.unks.length=S.effs.length
  tm:0<=S.time/\h.mems.length=S.time.toNat+1
  mem:h.mems[S.time.toNat]?=some m.words
  fin:m.fin=0
theorem IM{n m:Nat}{l:List Tm}(h:∀t∈l,t.sc n m)(z:Int):(tget l z).sc n m:=by
 exact eK
theorem Uq{α:Type}(l:List α)(a b:Nat)(v d:α):((l.set a v)[b]?).getD d=if a=b/\a<l.length then v else(l[b]?).getD d:=by
 by_cases h:a=b
 . subst h
   by_cases hl:a<l.length
   . rw[List.getElem?_set_self hl,if_pos ⟨rfl,hl⟩];rfl
   . rw[if_neg (by intro h;exact hl h.2),List.set_eq_of_length_le Ab]
 . rw[List.getElem?_set_ne h,if_neg (by intro g;exact h g.1)]
section
variable {ρ : List Int} {S : SS} {regs : List Int} {m : Mach} {h : EH}
theorem Inv.put(hI:Inv ρ S regs m h)(d:Int){t:Tm}{v:Int}(ht:t.sc h.unks.length h.mems.length)(hv:v=ev ρ h t):Inv ρ (S.put d t) (Bi regs d v) m h:=by
 refine⟨by simp[Bi,SS.put,tset,hI.len],fun z=>?_,fun x hx=>?_,hI.core,hI.un,hI.tm,hI.mem,hI.fin⟩
 . have h1:=hI.reg z;show((regs.set d.toNat v)[z.toNat]?).getD 0=ev ρ h (((S.regs.set d.toNat t)[z.toNat]?).getD (.cst 0));rw[Uq,Uq,hI.len];split
   . exact hv
   . exact h1
 . have hx':x∈S.regs.set d.toNat t:=hx;rcases List.mem_or_eq_of_mem_set hx' with hx|rfl
   . exact hI.sc x hx
   . exact ht
theorem Inv.no(hI:Inv ρ S regs m h)(e:SE){c:Core}(u:Int){m1:Mach}(hm:m1.core=c)(hf:m1.fin=0)(hw:c.words=m.words):Inv ρ (S.eff e) regs m1 (h.no c u):=by
 refine⟨hI.len,fun z=>?_,fun x hx=>?_,hm.symm,?_,hI.tm,?_,hf⟩
 . rw[hI.reg z];exact(Pq (h.ext_no c u) (IM hI.sc z)).symm
 . exact GB (by simp[EH.no]) (Nat.le_refl _) (hI.sc x hx)
 . show(h.unks++[u]).length=(S.effs++[e]).length;simp[hI.un]
 . show h.mems[S.time.toNat]?=some m1.words;rw[hI.mem,<-hw,<-hm];rfl
theorem Inv.yes(hI:Inv ρ S regs m h)(e:SE){c:Core}(u:Int){m1:Mach}(hm:m1.core=c)(hf:m1.fin=0):Inv ρ (S.eff e).tick regs m1 (h.yes c u):=by
 obtain⟨t0,t1⟩:=hI.tm;have e1:(S.time+1).toNat=S.time.toNat+1:=by omega
 refine⟨hI.len,fun z=>?_,fun x hx=>?_,hm.symm,?_,?_,?_,hf⟩
 . rw[hI.reg z];exact(Pq (h.ext_yes c u) (IM hI.sc z)).symm
 . exact GB (by simp[EH.yes]) (by simp[EH.yes]) (hI.sc x hx)
 . show(h.unks++[u]).length=(S.effs++[e]).length;simp[hI.un]
 . show 0<=S.time+1/\(h.mems++[c.words]).length=(S.time+1).toNat+1;rw[e1];simp[t1];omega
 . show(h.mems++[c.words])[(S.time+1).toNat]?=some m1.words;rw[e1,<-t1,List.getElem?_append_right (Nat.le_refl _),Nat.sub_self,<-hm];rfl
end
def UC(ρ:List Int)(S:SS)(p:List Int×Mach):aE->Prop
  | .ok h=>Inv ρ S p.1 p.2 h
  | .stop f c=>p.2.fin=f/\f≠0/\p.2.core=c
theorem U2{k a b:Int}(hk:4<=k/\k<=15)(h:(k=7\/k=8)->b≠0):(B1 k a b).2=0:=by
 unfold B1
 cases e4:k==4 with
 |true=>rfl
 |false=>
 cases e5:k==5 with
 |true=>rfl
 |false=>
 cases e6:k==6 with
 |true=>rfl
 |false=>
 cases e7:k==7||k==8 with
 |true=>
  have hb:b≠0:=h (by simpa using e7);show(F8 k a b).2=0;unfold F8;rw[show(b==0)=false by simpa using hb]
  cases k==7<;>rfl
 |false=>
 cases e9:k==9 with
 |true=>rfl
 |false=>
 cases e10:k==10 with
 |true=>rfl
 |false=>
 cases e11:k==11 with
 |true=>rfl
 |false=>
 cases e12:k==12||k==13 with
 |true=>rfl
 |false=>
 cases e14:k==14||k==15 with
 |true=>rfl
 |false=>exfalso;simp at e4 e5 e6 e7 e9 e10 e11 e12 e14;omega
section
variable {call call' : Int -> Mach -> Mach} {s : ByteArray} {ρ : List Int}
theorem P2{h:EH}{k:Int}{a b:Tm}:ev ρ h (Da k a b)=(B1 k (ev ρ h a) (ev ρ h b)).1:=by
 have hop:∀x y:Tm,ev ρ h (.op k x y)=(B1 k (ev ρ h x) (ev ρ h y)).1:=fun _ _=>rfl
 cases a with
 |cst x=>
  cases b with
  |cst y=>
   simp only[Da]
   cases trisky k (.cst y)<;>rfl
  |_=>rfl
 |_=>rfl
theorem P1{n m:Nat}{k:Int}{a b:Tm}(ha:a.sc n m)(hb:b.sc n m):(Da k a b).sc n m:=by
 have hop:(Tm.op k a b).sc n m:=⟨ha,hb⟩;exact ko
theorem Sa{h:EH}{k:Int}{a b:Tm}(hk:4<=k/\k<=15)(hr:trisky k b=false):(B1 k (ev ρ h a) (ev ρ h b)).2=0:=by
 refine U2 hk fun hd=>?_
 unfold trisky at hr;rw[show(k==7||k==8)=true by simpa using hd,Bool.true_and]at hr
 cases b with
 |cst n=>exact fun e=>by simp[Tm.isZero]at hr;exact hr e
 |_=>cases hr
theorem LH{S:SS}{regs:List Int}{m:Mach}{h:EH}{r:aE}{e:SE}{t:Tac}{p:List Int×Mach}(he:(S.step t).effs=S.effs++[e])(hr:WS call s ρ e h r)(hg:UC ρ (S.step t) p r):
 ∃es,(S.step t).effs=S.effs++es/\∃r,We call s ρ es h r/\UC ρ (S.step t) p r:=⟨[e],he,r,dB hr,hg⟩
theorem TV{S:SS}{h:EH}{t:Tac}{p:List Int×Mach}(he:(S.step t).effs=S.effs)(hg:Inv ρ (S.step t) p.1 p.2 h):
 ∃es,(S.step t).effs=S.effs++es/\∃r,We call s ρ es h r/\UC ρ (S.step t) p r:=⟨[],by rw[he,List.append_nil],.ok h,rfl,hg⟩
theorem cL{S:SS}{regs:List Int}{m:Mach}{h:EH}(hI:Inv ρ S regs m h)(t:Tac)(hop:1<=t.op/\t.op<=10)(hk:t.op=3->4<=t.k/\t.k<=15):
 ∃es,(S.step t).effs=S.effs++es/\∃r,We call s ρ es h r/\UC ρ (S.step t) (AB call s t regs m) r:=by
 have hc:=hI.core;have hw:h.core.words=m.words:=by rw[hc];rfl
 have ho:h.core.out=m.out:=by rw[hc];rfl
 have hrd:h.core.read=m.read:=by rw[hc];rfl
 have hct:h.core.cnt=m.steps:=by rw[hc];rfl
 have hg:=fun z=>IM hI.sc z
 have hev:=hI.reg
 by_cases h1:t.op=1
 . have e1:S.step t=S.put t.d (.cst t.n):=by unfold SS.step;rw[h1];rfl
   have e2:AB call s t regs m=(Bi regs t.d t.n,m):=by unfold AB;rw[h1];rfl
   refine TV OA ?_;rw[e1,e2];exact hI.put t.d trivial rfl
 by_cases h2:t.op=2
 . have e1:S.step t=S.put t.d (tget S.regs t.a):=by unfold SS.step;rw[h2];rfl
   have e2:AB call s t regs m=(Bi regs t.d (Ah regs t.a),m):=by unfold AB;rw[h2];rfl
   refine TV OA ?_;rw[e1,e2];exact hI.put t.d (hg _) (hev _)
 by_cases h3:t.op=3
 . have e1:S.step t=S.bin t:=by unfold SS.step;rw[h3];rfl
   have e2:AB call s t regs m=(bif (B1 t.k (Ah regs t.a) (Ah regs t.b)).2==0 then(Bi regs t.d (B1 t.k (Ah regs t.a) (Ah regs t.b)).1,m)else(regs,{m with fin:=2})):=by unfold AB;rw[h3];rfl
   cases hr:trisky t.k (tget S.regs t.b)with
   |false=>
    have ed:S.div t=S:=by unfold SS.div;rw[hr];rfl
    have hz:=Sa (ρ:=ρ) (h:=h) (a:=tget S.regs t.a) (hk h3) hr;rw[<-hev,<-hev]at hz;refine TV (by rw[e1,SS.bin,ed];rfl) ?_;rw[e1,e2,hz,SS.bin,ed];exact hI.put t.d (P1 (hg _) (hg _)) (by rw[P2,<-hev,<-hev])
   |true=>
    have ed:S.div t=S.eff ⟨true,3,t.k,0,0,some (tget S.regs t.a),some (tget S.regs t.b)⟩:=by unfold SS.div;rw[hr];rfl
    have hfx:WS call s ρ ⟨true,3,t.k,0,0,some (tget S.regs t.a),some (tget S.regs t.b)⟩ h (bif (B1 t.k (Ah regs t.a) (Ah regs t.b)).2==0 then .ok (h.no h.core 0)else .stop 2 h.core):=.inr ⟨(by decide:(3:Int)≠10),by rw[hev,hev];rfl⟩;refine LH (S:=S) (m:=m) (regs:=regs) (by rw[e1,SS.bin,ed];rfl) hfx ?_;rw[e1,e2,SS.bin,ed]
    cases hz:(B1 t.k (Ah regs t.a) (Ah regs t.b)).2==0 with
    |false=>exact⟨rfl,by decide,by rw[hc];rfl⟩
    |true=>
     have hI2:=hI.no ⟨true,3,t.k,0,0,some (tget S.regs t.a),some (tget S.regs t.b)⟩ (c:=h.core) 0 (m1:=m) hc.symm hI.fin hw;exact hI2.put t.d (P1 (IM hI2.sc t.a) (IM hI2.sc t.b)) (by
      rw[P2];have ha:=hI2.reg t.a;have hb:=hI2.reg t.b;have ea:tget (S.eff ⟨true,3,t.k,0,0,some (tget S.regs t.a),some (tget S.regs t.b)⟩).regs t.a=tget S.regs t.a:=rfl;have eb:tget (S.eff ⟨true,3,t.k,0,0,some (tget S.regs t.a),some (tget S.regs t.b)⟩).regs t.b=tget S.regs t.b:=rfl;rw[ea]at ha;rw[eb]at hb;rw[ha,hb])
 by_cases h4:t.op=4
 . have e1:S.step t=S.put t.d (.ld t.base S.time):=by unfold SS.step;rw[h4];rfl
   have e2:AB call s t regs m=(Bi regs t.d (Ah m.words t.base),m):=by unfold AB;rw[h4];rfl
   refine TV OA ?_;rw[e1,e2];refine hI.put t.d (show S.time.toNat<h.mems.length by rw[hI.tm.2];omega) ?_;show _=Ah ((h.mems[S.time.toNat]?).getD []) t.base;rw[hI.mem];rfl
 by_cases h5:t.op=5
 . have e1:S.step t=(S.eff ⟨false,5,0,t.base,0,some (tget S.regs t.a),none⟩).tick:=by unfold SS.step;rw[h5];rfl
   have e2:AB call s t regs m=(regs,{m with words:=Bi m.words t.base (Ah regs t.a)}):=by unfold AB;rw[h5];rfl
   have hfx:WS call s ρ ⟨false,5,0,t.base,0,some (tget S.regs t.a),none⟩ h (.ok (h.yes ⟨Bi m.words t.base (Ah regs t.a),m.out,m.read,m.steps⟩ 0)):=.inr ⟨(by decide:(5:Int)≠10),by rw[hev,<-hw,<-ho,<-hrd,<-hct];rfl⟩;refine LH (S:=S) (m:=m) (regs:=regs) OA hfx ?_;rw[e1,e2];exact hI.yes _ 0 rfl hI.fin
 by_cases h6:t.op=6
 . have e1:S.step t=S.get t ⟨false,6,0,t.base,t.size,some (tget S.regs t.a),none⟩:=by unfold SS.step;rw[h6];rfl
   have e2:AB call s t regs m=(bif decide (Ah regs t.a>=t.size)then(regs,{m with fin:=3})else(Bi regs t.d (Ah m.words (t.base+Ah regs t.a)),m)):=by unfold AB;rw[h6];rfl
   have hfx:WS call s ρ ⟨false,6,0,t.base,t.size,some (tget S.regs t.a),none⟩ h (bif decide (Ah regs t.a>=t.size)then .stop 3 h.core else .ok (h.no h.core (Ah m.words (t.base+Ah regs t.a)))):=.inr ⟨(by decide:(6:Int)≠10),by rw[hev,<-hw];rfl⟩;refine LH (S:=S) (m:=m) (regs:=regs) OA hfx ?_;rw[e1,e2]
   cases decide (Ah regs t.a>=t.size)with
   |true=>exact⟨rfl,by decide,by rw[hc];rfl⟩
   |false=>
    have hI2:=hI.no ⟨false,6,0,t.base,t.size,some (tget S.regs t.a),none⟩ (c:=h.core) (Ah m.words (t.base+Ah regs t.a)) (m1:=m) hc.symm hI.fin hw;exact kD
 by_cases h7:t.op=7
 . have e1:S.step t=(S.eff ⟨false,7,0,t.base,t.size,some (tget S.regs t.a),some (tget S.regs t.b)⟩).tick:=by unfold SS.step;rw[h7];rfl
   have e2:AB call s t regs m=(bif decide (Ah regs t.a>=t.size)then(regs,{m with fin:=3})else(regs,{m with words:=Bi m.words (t.base+Ah regs t.a) (Ah regs t.b)})):=by unfold AB;rw[h7];rfl
   have hfx:WS call s ρ ⟨false,7,0,t.base,t.size,some (tget S.regs t.a),some (tget S.regs t.b)⟩ h (bif decide (Ah regs t.a>=t.size)then .stop 3 h.core else .ok (h.yes ⟨Bi m.words (t.base+Ah regs t.a) (Ah regs t.b),m.out,m.read,m.steps⟩ 0)):=.inr ⟨(by decide:(7:Int)≠10),by rw[hev,hev,<-hw,<-ho,<-hrd,<-hct];rfl⟩;refine LH (S:=S) (m:=m) (regs:=regs) OA hfx ?_;rw[e1,e2]
   cases decide (Ah regs t.a>=t.size)with
   |true=>exact⟨rfl,by decide,by rw[hc];rfl⟩
   |false=>exact hI.yes _ 0 rfl hI.fin
 by_cases h8:t.op=8
 . have e1:S.step t=S.get t ⟨false,8,0,0,0,none,none⟩:=by unfold SS.step;rw[h8];rfl
   have e2:AB call s t regs m=(bif decide (m.read<s.size)then(Bi regs t.d ((KU s m.read).toNat:Int),{m with read:=m.read+1})else(Bi regs t.d 256,m)):=by unfold AB;rw[h8];rfl
   have hfx:WS call s ρ ⟨false,8,0,0,0,none,none⟩ h (bif decide (m.read<s.size)then .ok (h.no ⟨m.words,m.out,m.read+1,m.steps⟩ ((KU s m.read).toNat:Int))else .ok (h.no h.core 256)):=.inr ⟨(by decide:(8:Int)≠10),by rw[<-hw,<-ho,<-hrd,<-hct];rfl⟩;refine LH (S:=S) (m:=m) (regs:=regs) OA hfx ?_;rw[e1,e2];have key:∀(c:Core) (u:Int) (m1:Mach),m1.core=c->m1.fin=0->c.words=m.words->Inv ρ (S.get t ⟨false,8,0,0,0,none,none⟩) (Bi regs t.d u) m1 (h.no c u):=fun c u m1 a1 a2 a3=>by
    have hI2:=hI.no ⟨false,8,0,0,0,none,none⟩ u a1 a2 a3;exact kD
   cases decide (m.read<s.size)with
   |true=>exact key _ _ _ rfl hI.fin rfl
   |false=>exact key _ _ _ hc.symm hI.fin hw
 by_cases h9:t.op=9
 . have e1:S.step t=S.eff ⟨false,9,0,0,0,some (tget S.regs t.a),none⟩:=by unfold SS.step;rw[h9];rfl
   have e2:AB call s t regs m=(bif decide (m.out.length>=65536)then(regs,{m with fin:=4})else(regs,{m with out:=m.out++[FD (Ah regs t.a)]})):=by unfold AB;rw[h9];rfl
   have hfx:WS call s ρ ⟨false,9,0,0,0,some (tget S.regs t.a),none⟩ h (bif decide (m.out.length>=65536)then .stop 4 h.core else .ok (h.no ⟨m.words,m.out++[FD (Ah regs t.a)],m.read,m.steps⟩ 0)):=.inr ⟨(by decide:(9:Int)≠10),by rw[hev,<-hw,<-ho,<-hrd,<-hct];rfl⟩;refine LH (S:=S) (m:=m) (regs:=regs) OA hfx ?_;rw[e1,e2]
   cases decide (m.out.length>=65536)with
   |true=>exact⟨rfl,by decide,by rw[hc];rfl⟩
   |false=>exact hI.no _ 0 rfl hI.fin rfl
 have h10:t.op=10:=by omega
 have e1:S.step t=(S.eff ⟨false,10,0,t.base,0,none,none⟩).tick:=by unfold SS.step;rw[h10];rfl
 have e2:AB call s t regs m=(regs,call t.base m):=by unfold AB;rw[h10];rfl
 have hfx:WS call s ρ ⟨false,10,0,t.base,0,none,none⟩ h (iP (call t.base m) h):=.inl ⟨rfl,m,hc.symm,hI.fin,rfl⟩;refine LH (S:=S) (m:=m) (regs:=regs) OA hfx ?_;rw[e1,e2];unfold iP
 cases hz:(call t.base m).fin==0 with
 |true=>exact hI.yes _ 0 rfl (by simpa using hz)
 |false=>exact⟨rfl,by simpa using hz,rfl⟩
end
theorem S5(l:List Tac):∀S:SS,∃es,(l.foldl SS.step S).effs=S.effs++es:=by
 induction l with
 |nil=>exact fun S=>⟨[],by simp⟩
 |cons t l ih=>
  intro S;obtain⟨es,he⟩:=ih (S.step t);have h1:∃es,(S.step t).effs=S.effs++es:=by
   unfold SS.step
   cases t.op==1 with
   |true=>exact⟨[],by simp[SS.put]⟩
   |false=>
   cases t.op==2 with
   |true=>exact⟨[],by simp[SS.put]⟩
   |false=>
   cases t.op==3 with
   |true=>
    simp only[cond_true,cond_false,SS.bin,SS.put,SS.div]
    cases trisky t.k (tget S.regs t.b)with
    |true=>exact⟨[_],rfl⟩
    |false=>exact⟨[],by simp⟩
   |false=>
   cases t.op==4 with
   |true=>exact⟨[],by simp[SS.put]⟩
   |false=>
   cases t.op==5 with
   |true=>exact⟨[_],rfl⟩
   |false=>
   cases t.op==6 with
   |true=>exact⟨[_],rfl⟩
   |false=>
   cases t.op==7 with
   |true=>exact⟨[_],rfl⟩
   |false=>
   cases t.op==8 with
   |true=>exact⟨[_],rfl⟩
   |false=>
   cases t.op==9 with
   |true=>exact⟨[_],rfl⟩
   |false=>exact⟨[_],rfl⟩
  obtain⟨e1,h1⟩:=h1;exact⟨e1++es,by rw[List.foldl_cons,he,h1,List.append_assoc]⟩
def vm(ρ:List Int)(S:SS)(p:Bool×List Int×Mach):aE->Prop
  | .ok h=>p.1=true/\Inv ρ S p.2.1 p.2.2 h
  | .stop f c=>p.1=false/\p.2.2.fin=f/\f≠0/\p.2.2.core=c
def kins(call:Int->Mach->Mach)(s:ByteArray):List Tac->List Int->Mach->Bool×List Int×Mach
  | [],regs,m=>(true,regs,m)
  |t::r,regs,m=>bif (AB call s t regs m).2.fin==0 then kins call s r (AB call s t regs m).1 (AB call s t regs m).2 else(false,AB call s t regs m)
theorem Pb{call:Int->Mach->Mach}{s:ByteArray}{ρ:List Int}:∀(l:List Tac),(∀t∈l,(1<=t.op/\t.op<=10)/\(t.op=3->4<=t.k/\t.k<=15))->∀(S:SS) (regs:List Int) (m:Mach) (h:EH),Inv ρ S regs m h->
 ∃es,(l.foldl SS.step S).effs=S.effs++es/\∃r,We call s ρ es h r/\vm ρ (l.foldl SS.step S) (kins call s l regs m) r
 | [],_,S,regs,m,h,hI=>⟨[],by simp,.ok h,rfl,rfl,hI⟩
 |t::l,hl,S,regs,m,h,hI=>by
  obtain⟨ht1,ht2⟩:=hl t Az;obtain⟨es,he,r,hr,hg⟩:=cL (call:=call) (s:=s) hI t ht1 ht2;rw[kins]
  cases r with
  |stop f c=>
   obtain⟨g1,g2,g3⟩:=hg;obtain⟨es2,he2⟩:=S5 l (S.step t);refine⟨es++es2,by rw[List.foldl_cons,he2,he,List.append_assoc],.stop f c,Q6 hr,?_⟩;rw[show((AB call s t regs m).2.fin==0)=false by rw[g1];simpa using g2];exact⟨rfl,g1,g2,g3⟩
  |ok h1=>
   have hg':Inv ρ (S.step t) (AB call s t regs m).1 (AB call s t regs m).2 h1:=hg;rw[show((AB call s t regs m).2.fin==0)=true by rw[hg'.fin];rfl];obtain⟨es2,he2,r2,b1,b2⟩:=Pb (call:=call) (s:=s) l (fun t h=>hl t (by simp[h])) (S.step t) _ _ h1 hg';exact⟨es++es2,by rw[List.foldl_cons,he2,he,List.append_assoc],r2,Ut hr b1,b2⟩
theorem Ev{α:Type}{l:List α}{f:α->List AV}{n:Int}{x:α}(h:l[n.toNat]?=some x):(l.map f)[n.toNat]?=some (f x):=by rw[List.getElem?_map,h];rfl
theorem UZ(n:Nat):∀(i:Nat) (cs cs':List AV),(List.replicate n [AV.nil])[i]?=some cs->(List.replicate n [AV.lst false []])[i]?=some cs'->cs'.length=cs.length/\∀(j:Nat) (x y:AV),cs[j]?=some x->cs'[j]?=some y->y.cell1=true/\∀H v,Rel H AE x v->Rel H AE y v:=fun i cs cs' h1 h2=>by
 have e1:=List.eq_of_mem_replicate (List.mem_of_getElem? h1);have e2:=List.eq_of_mem_replicate (List.mem_of_getElem? h2);subst e1;subst e2;refine⟨rfl,fun j x y g1 g2=>?_⟩
 cases j with
 |zero=>simp at g1 g2;subst g1;subst g2;exact⟨rfl,fun H v h=>VH h⟩
 |succ j=>simp at g1
theorem He{n:Nat}(h:0<n)(h2:n<=100000000):AM .sub (.int .i64 (n:Int)) (.int .i64 1)=some (.int .i64 ((n-1:Nat):Int)):=by
 simp only[AM,Bf,isShift,cond_false,if_true];rw[B4 Ab Ab];congr 2;omega
def HR(l:List Int)(z:Int):Int:=(l[z.toNat]?).getD 0
def FZ(l:List Int):List (List AV):=l.map fun n=>[AV.int .i64 n]
theorem EI(l:List Int):(FZ l).length=l.length:=by simp[FZ]
def BFunc.blockAt(f:BFunc)(i:Int):Block:=(f.blocks[i.toNat]?).getD ⟨[],0,0,0,0⟩
def DJ(p:List Int):Int:=p.getLast?.getD 0
def BFunc.joined(f:BFunc)(p:List Int):List Tac:=p.flatMap fun i=>(f.blockAt i).ins
def km(n:Nat)(p:List Int):Prop:=p≠[]/\∀i∈p,0<=i/\i<n
theorem Ek{α:Type}{l:List α}{i:Nat}{x y:α}(h:l[i]?=some x):(l.set i y)[i]?=some y:=by
 grind
section
variable {P : Program} {T : Nat -> Option Ae} {o : Oper} {e : Ar} {h : Aa}
theorem T6(hT:Bc P T){t:TypeId}{x:Operand}{y:Operand}{k:IntKind}{m:Nat}{es:List (List AV)}{i j:Ae}{u:Nat}(ho:o.op=.slice t x none (some y) none)(hx:look e x=some (.lst false es))(ht:T t=some i)(hk:i.k=.slice u)(hj:T u=some j)
 (hy:look e y=some (.int k (m:Int))) (hm:m<=es.length) (hu:∀cs∈es,cs.length=j.size):QLoc P o e h [] (.lst false (es.take m)):=by
 have:=Fi (h:=h) hT 0 m ho hx ht hk hj rfl ⟨k,hy⟩ (Nat.zero_le _) hm hu;rw[List.drop_zero]at this;exact this
theorem iX(hT:Bc P T){t:TypeId}{x:Operand}{y:Operand}{k:IntKind}{m:Nat}{es:List (List AV)}{i j:Ae}{u:Nat}(ho:o.op=.slice t x (some y) none none)(hx:look e x=some (.lst false es))(ht:T t=some i)(hk:i.k=.slice u)(hj:T u=some j)
 (hy:look e y=some (.int k (m:Int))) (hm:m<=es.length) (hu:∀cs∈es,cs.length=j.size):QLoc P o e h [] (.lst false (es.drop m)):=by
 have:=Fi (h:=h) hT m es.length ho hx ht hk hj ⟨k,hy⟩ rfl hm (Nat.le_refl _) hu;rw[List.take_of_length_le (Nat.le_refl _)]at this;exact this
end
theorem Ct{f:BFunc}{i:Int}(h:0<=i/\i<f.blocks.length):f.blocks[i.toNat]?=some (f.blockAt i):=by
 grind[Ag,BFunc.blockAt]
theorem V3(l:List Tac):(∀cs∈l.map Tac.cells,cs.length=8)/\∀cs∈l.map Tac.cells,cs.all AV.isPure1=true:=by
 constructor<;>intro cs h<;>simp only[List.mem_map]at h<;>obtain⟨t,_,rfl⟩:=h<;>rfl
theorem QQ{p:List Int}(h:p≠[]):p[p.length-1]?=some (DJ p):=by
 rw[<-List.getLast?_eq_getElem?,DJ,List.getLast?_eq_some_getLast h];rfl
theorem Mh{p:List Int}(h:p≠[]):DJ p∈p:=List.mem_of_getElem? (QQ h)
def O0(f:BFunc)(p:List Int)(j:Nat):Bool:=(f.blockAt (HR p j)).fin==1&&(f.blockAt (HR p j)).to==HR p ((j+1:Nat):Int)
def Jm(f:BFunc)(p:List Int):Bool:=(List.range (p.length-1)).all (O0 f p)
def Hc(f:BFunc):List Tac->List Int->Bool
  |rest,[]=>rest.isEmpty
  |rest,i::r=>decide ((f.blockAt i).ins.length<=rest.length)&&(decide (rest.take (f.blockAt i).ins.length=(f.blockAt i).ins)&&Hc f (rest.drop (f.blockAt i).ins.length) r)
def Dp(p:List Int):Int:=p.head?.getD 0
def C5(paths:List (List Int))(k:Int):List Int:=(paths[k.toNat]?).getD []
def EK(paths:List (List Int))(k i:Int):Bool:=decide (k>=0)&&(decide (k<paths.length)&&Dp (C5 paths k)==i)
def K3(last b:Block)(paths:List (List Int)):Bool:=bif b.fin==1||b.fin==2 then EK paths b.to last.to else b.to==last.to
def K4(last b:Block)(paths:List (List Int)):Bool:=bif b.fin==2 then EK paths b.els last.els else b.els==last.els
def J1(last b:Block)(paths:List (List Int)):Bool:= !(b.fin !=last.fin)&&(!(b.v !=last.v)&&(K3 last b paths&&K4 last b paths))
def DZ(n:Nat)(p:List Int):Bool:= !(p.length==0)&&p.all (fun i=> !(decide (i<0))&& !(decide (i>=n)))
def GU(old new:BFunc)(paths:List (List Int))(q:List Int×Nat):Bool:=Jm old q.1&&(Hc old (new.blockAt q.2).ins q.1&&J1 (old.blockAt (DJ q.1)) (new.blockAt q.2) paths)
def CE(old new:BFunc)(paths:List (List Int)):Bool:=
  !(paths.length==0)&&(!(paths.length !=new.blocks.length)&&(!(old.regs !=new.regs)&&(paths.all (DZ old.blocks.length)&&(!(Dp (C5 paths 0) !=0)&&paths.zipIdx.all (GU old new paths)))))
theorem Gg{n:Nat}{p:List Int}(h:DZ n p=true):km n p:=by
 grind[DZ,List.all_eq_true,km]
theorem NQ{n k:Nat}(h:k<n):(List.range n)[k]?=some k:=by simp[h]
theorem Ob{p:List Int}(h:p≠[]):p[0]?=some (Dp p):=by
 cases p with
 |nil=>exact absurd rfl h
 |cons x r=>rfl
theorem JU{paths:List (List Int)}{k:Int}(h:0<=k/\k<paths.length):paths[k.toNat]?=some (C5 paths k):=by
 grind[Ag,C5]
theorem QX{p:List Int}{k:Nat}{y:Int}(h:p[k]?=some y):HR p k=y:=by simp[HR,h]
structure MG where
  k:Nat
  rest:List Tac
theorem SH{f:BFunc}{p:List Int}{rest:List Tac}{k:Nat}{i:Int}(h:p[k]?=some i):Hc f rest (p.drop k)=(decide ((f.blockAt i).ins.length<=rest.length)&&(decide (rest.take (f.blockAt i).ins.length=(f.blockAt i).ins)&&Hc f (rest.drop (f.blockAt i).ins.length) (p.drop (k+1)))):=by
 obtain⟨h1,h2⟩:=List.getElem?_eq_some_iff.1 h;rw[List.drop_eq_getElem_cons h1,h2];rfl
theorem Vg{l:List Tac}{n:Nat}:(l.map Tac.cells).take n=(l.take n).map Tac.cells:=by rw[List.map_take]
theorem Vh{l:List Tac}{n:Nat}:(l.map Tac.cells).drop n=(l.drop n).map Tac.cells:=by rw[List.map_drop]
theorem Tc{old new:BFunc}{paths:List (List Int)}(h:¬(paths.length≠0/\paths.length=new.blocks.length/\old.regs=new.regs)):CE old new paths=false:=by
 grind[CE]
theorem ML{old new:BFunc}{paths:List (List Int)}(h:paths.all (DZ old.blocks.length)=false):CE old new paths=false:=by
 grind[CE,DZ]
theorem Tb{old new:BFunc}{paths:List (List Int)}(h:(Dp (C5 paths 0) !=0)=true):CE old new paths=false:=by
 grind[CE,Dp,C5]
theorem Ta{old new:BFunc}{paths:List (List Int)}(h:paths.zipIdx.all (GU old new paths)=false):CE old new paths=false:=by
 grind[CE,GU]
theorem S9{old new:BFunc}{paths:List (List Int)}(h1:paths.length≠0)(h2:paths.length=new.blocks.length)(h3:old.regs=new.regs)(h4:paths.all (DZ old.blocks.length)=true)(h5:(Dp (C5 paths 0) !=0)=false)(h6:paths.zipIdx.all (GU old new paths)=true):CE old new paths=true:=by
 grind[CE,DZ,Dp,C5,GU]
section
variable {P : Program} {T : Nat -> Option Ae} {o : Oper} {e : Ar} {h : Aa}
theorem NC{l:List Tac}{j:Ae}(h8:j.size=8):∀cs∈l.map Tac.cells,cs.length=j.size:=fun cs h=>by
 rw[h8];exact(V3 l).1 cs h
theorem XZ(hT:Bc P T){t:TypeId}{x:Operand}{y:Operand}{k:IntKind}{m:Nat}{z:Int}{l:List Tac}{i j:Ae}{u:Nat}(ho:o.op=.slice t x none (some y) none)(hx:look e x=some (Eu l))(ht:T t=some i)(hk:i.k=.slice u)(hj:T u=some j/\j.size=8)
 (hy:look e y=some (.int k z)) (hz:z=(m:Int)) (hm:m<=l.length):QLoc P o e h [] (Eu (l.take m)):=by
 subst hz;have:=T6 (h:=h) hT ho hx ht hk hj.1 hy (by simpa using hm) (NC hj.2);rwa[Vg]at this
theorem bO(hT:Bc P T){t:TypeId}{x:Operand}{y:Operand}{k:IntKind}{m:Nat}{z:Int}{l:List Tac}{i j:Ae}{u:Nat}(ho:o.op=.slice t x (some y) none none)(hx:look e x=some (Eu l))(ht:T t=some i)(hk:i.k=.slice u)(hj:T u=some j/\j.size=8)
 (hy:look e y=some (.int k z)) (hz:z=(m:Int)) (hm:m<=l.length):QLoc P o e h [] (Eu (l.drop m)):=by
 subst hz;have:=iX (h:=h) hT ho hx ht hk hj.1 hy (by simpa using hm) (NC hj.2);rwa[Vh]at this
end
section
variable {P : Program} {T : Nat -> Option Ae} {o : Oper} {e : Ar} {h : Aa}
end
theorem Md(f:BFunc):∀(p:List Int) (l:List Tac),Hc f l p=decide (l=f.joined p)
 | [],l=>by cases l<;>simp[Hc,BFunc.joined]
 |i::r,l=>by
  have e:f.joined (i::r)=(f.blockAt i).ins++f.joined r:=by simp[BFunc.joined]
  rw[Hc,Md f r,e]
  by_cases h:l=(f.blockAt i).ins++f.joined r
  . subst h
    simp
  . rw[decide_eq_false h]
    by_cases h1:(f.blockAt i).ins.length<=l.length
    . by_cases h2:l.take (f.blockAt i).ins.length=(f.blockAt i).ins
      . by_cases h3:l.drop (f.blockAt i).ins.length=f.joined r
        . exact absurd (by rw[<-h3];conv=>lhs;rw[<-List.take_append_drop (f.blockAt i).ins.length l,h2]) h
        . simp[h3]
      . simp[h2]
    . simp[h1]
def fol(f:BFunc):List Int->Prop
  |i::j::r=>(f.blockAt i).fin=1/\(f.blockAt i).to=j/\fol f (j::r)
  |_=>True
theorem HM(i:Int)(r:List Int)(k:Nat):HR (i::r) ((k+1:Nat):Int)=HR r (k:Int):=by simp[HR]
theorem ZF(f:BFunc):∀(p:List Int),(∀k,k<p.length-1->O0 f p k=true)↔fol f p
 | []=>by simp[fol]
 | [i]=>by simp[fol]
 |i::j::r=>by
  have ih:=ZF f (j::r);unfold fol;rw[<-ih];constructor
  . intro h;have h0:=h 0 Az;simp only[O0,Bool.and_eq_true,beq_iff_eq]at h0;have e0:HR (i::j::r) ((0:Nat):Int)=i:=by simp[HR]
    have e1:HR (i::j::r) ((0+1:Nat):Int)=j:=by simp[HR]
    rw[e0,e1]at h0;refine⟨h0.1,h0.2,fun k hk=>?_⟩;have h1:=h (k+1) (by simp at hk|-;omega);simp only[O0]at h1|-;rwa[HM,HM]at h1
  . rintro⟨h1,h2,h3⟩ k hk
    cases k with
    |zero=>
     have e0:HR (i::j::r) ((0:Nat):Int)=i:=by simp[HR]
     have e1:HR (i::j::r) ((0+1:Nat):Int)=j:=by simp[HR]
     simp only[O0,e0,e1,h1,h2];simp
    |succ k=>
     have:=h3 k (by simp at hk|-;omega);simp only[O0]at this|-;rwa[HM,HM]
theorem Jl(f:BFunc)(p:List Int):Jm f p=true↔fol f p:=by
 rw[<-ZF,Jm,List.all_eq_true]
 simp
structure UE(old new:BFunc)(paths:List (List Int)):Prop where
  ne:paths.length≠0
  len:paths.length=new.blocks.length
  regs:old.regs=new.regs
  all:∀p∈paths,km old.blocks.length p
  head:Dp (C5 paths 0)=0
  fol:∀(k:Nat) (p:List Int),paths[k]?=some p->fol old p
  ins:∀(k:Nat) (p:List Int),paths[k]?=some p->(new.blockAt k).ins=old.joined p
  leads:∀(k:Nat) (p:List Int),paths[k]?=some p->J1 (old.blockAt (DJ p)) (new.blockAt k) paths=true
theorem SU{n:Nat}{p:List Int}(h:km n p):DZ n p=true:=by
 simp only[DZ,Bool.and_eq_true,Bool.not_eq_true',List.all_eq_true,decide_eq_false_iff_not,beq_eq_false_iff_ne];exact⟨fun e=>h.1 (List.length_eq_zero_iff.1 e),fun i hi=>by have:=h.2 i hi;omega⟩
theorem check_iff{old new:BFunc}{paths:List (List Int)}:CE old new paths=true↔UE old new paths:=by
 simp only[CE,Bool.and_eq_true,Bool.not_eq_true',beq_eq_false_iff_ne,bne_eq_false_iff_eq,List.all_eq_true];constructor
 . rintro⟨h1,h2,h3,h4,h5,h6⟩
   have key:∀(k:Nat) (p:List Int),paths[k]?=some p->GU old new paths (p,k)=true:=fun k p hp=>h6 (p,k) (List.mem_of_getElem? (Bl hp))
   refine⟨h1,h2,h3,fun p hp=>Gg (h4 p hp),h5,fun k p hp=>?_,fun k p hp=>?_,fun k p hp=>?_⟩;all_goals
    have:=key k p hp;simp only[GU,Bool.and_eq_true]at this
   . exact(Jl _ _).1 this.1
   . have h:=this.2.1;rw[Md]at h;simpa using h
   . exact this.2.2
 . intro h;refine⟨h.ne,h.len,h.regs,fun p hp=>SU (h.all p hp),h.head,fun q hq=>?_⟩;obtain⟨p,k⟩:=q;obtain⟨i,hi⟩:=List.getElem?_of_mem hq;have hlt:i<paths.length:=by
    have:=(List.getElem?_eq_some_iff.1 hi).1;simpa using this
   obtain⟨x,hx⟩:=Ag hlt;rw[Bl hx]at hi
   cases hi
   simp only[GU,Bool.and_eq_true];refine⟨(Jl _ _).2 (h.fol _ _ hx),?_,h.leads _ _ hx⟩;rw[Md];simpa using h.ins _ _ hx
section
variable {A B C : BFunc} {P Q : List (List Int)}
theorem KC{last b:Block}{paths:List (List Int)}(h:J1 last b paths=true):b.fin=last.fin/\b.v=last.v/\(b.fin=1\/b.fin=2->EK paths b.to last.to=true)/\(¬(b.fin=1\/b.fin=2)->b.to=last.to)/\(b.fin=2->EK paths b.els last.els=true)/\(b.fin≠2->b.els=last.els):=by
 simp only[J1,Bool.and_eq_true,Bool.not_eq_true',bne_eq_false_iff_eq]at h;obtain⟨h1,h2,h3,h4⟩:=h;refine⟨h1,h2,fun e=>?_,fun e=>?_,fun e=>?_,fun e=>?_⟩
 . have:(b.fin==1||b.fin==2)=true:=by rcases e with e|e<;>simp[e]
   simpa only[K3,this,cond_true]using h3
 . have:(b.fin==1||b.fin==2)=false:=by simp at e|-;exact e
   simpa[K3,this]using h3
 . simpa[K4,e]using h4
 . have:(b.fin==2)=false:=by simpa using e
   simpa[K4,this]using h4
theorem Jy{paths:List (List Int)}{k i:Int}(h:EK paths k i=true):0<=k/\k<paths.length/\Dp (C5 paths k)=i:=by
 simp only[EK,Bool.and_eq_true,decide_eq_true_eq,beq_iff_eq]at h;exact⟨h.1,h.2.1,h.2.2⟩
end
section
variable {call call' : Int -> Mach -> Mach} {s : ByteArray} {fuel : Int}
variable {ok : Int -> Prop} {old new : BFunc}
end
theorem ZO{x:Block}{n r:Int}(h:x.ends n r=true):x.fin=1\/x.fin=2\/x.fin=3:=by
 grind[Block.ends]
def Mach.tick(m:Mach):Mach:={m with steps:=m.steps+1}
def kblk(call:Int->Mach->Mach)(s:ByteArray)(f:BFunc):Nat->Int->List Int->Mach->Mach
  |0,_,_,m=>{m with fin:=5}
  |g+1,i,regs,m=>
    match f.blocks[i.toNat]? with
    |none=>m
    |some k=>bif (kins call s k.ins regs m.tick).1&& !(k.fin==3)then kblk call s f g (k.next (kins call s k.ins regs m.tick).2.1) (kins call s k.ins regs m.tick).2.1 (kins call s k.ins regs m.tick).2.2 else(kins call s k.ins regs m.tick).2.2
def kfun(b:Blocks)(s:ByteArray)(G:Nat):Nat->Int->Mach->Mach
  |0,_,m=>m
  |n+1,i,m=>
    match b.funcs[i.toNat]? with
    |none=>m
    |some f=>kblk (kfun b s G n) s f G 0 (List.replicate f.regs.toNat 0) m
theorem Oc(l:List Tac):∀S:SS,(l.foldl SS.step S).regs.length=S.regs.length:=by
 induction l with
 |nil=>exact fun S=>rfl
 |cons t l ih=>exact fun S=>by rw[List.foldl_cons,ih,SS.step_len]
theorem Se{ok:Int->Prop}{S:SS}(hS:∀e∈S.effs,e.op=10->ok e.base){t:Tac}(hop:1<=t.op/\t.op<=10)(ht:t.op=10->ok t.base):∀e∈(S.step t).effs,e.op=10->ok e.base:=by
 have hap:∀e:SE,(e.op=10->ok e.base)->∀x∈S.effs++[e],x.op=10->ok x.base:=fun e he x hx=>by
  simp only[List.mem_append,List.mem_singleton]at hx;rcases hx with hx|rfl
  . exact hS x hx
  . exact he
 unfold SS.step
 cases h1:t.op==1 with
 |true=>exact hS
 |false=>
 cases h2:t.op==2 with
 |true=>exact hS
 |false=>
 cases h3:t.op==3 with
 |true=>
  show ∀e∈(S.div t).effs,e.op=10->ok e.base
  unfold SS.div
  cases trisky t.k (tget S.regs t.b)with
  |true=>exact hap _ (fun h=>absurd h (by decide:(3:Int)≠10))
  |false=>exact hS
 |false=>
 cases h4:t.op==4 with
 |true=>exact hS
 |false=>
 cases h5:t.op==5 with
 |true=>exact hap ⟨false,5,0,t.base,0,some (tget S.regs t.a),none⟩ (fun h=>absurd h (by decide:(5:Int)≠10))
 |false=>
 cases h6:t.op==6 with
 |true=>exact hap ⟨false,6,0,t.base,t.size,some (tget S.regs t.a),none⟩ (fun h=>absurd h (by decide:(6:Int)≠10))
 |false=>
 cases h7:t.op==7 with
 |true=>exact hap ⟨false,7,0,t.base,t.size,some (tget S.regs t.a),some (tget S.regs t.b)⟩ (fun h=>absurd h (by decide:(7:Int)≠10))
 |false=>
 cases h8:t.op==8 with
 |true=>exact hap ⟨false,8,0,0,0,none,none⟩ (fun h=>absurd h (by decide:(8:Int)≠10))
 |false=>
 cases h9:t.op==9 with
 |true=>exact hap ⟨false,9,0,0,0,some (tget S.regs t.a),none⟩ (fun h=>absurd h (by decide:(9:Int)≠10))
 |false=>exact hap ⟨false,10,0,t.base,0,none,none⟩ (fun _=>ht (by simp at h1 h2 h3 h4 h5 h6 h7 h8 h9;omega))
theorem KK{ok:Int->Prop}:∀(l:List Tac),(∀t∈l,(1<=t.op/\t.op<=10)/\(t.op=10->ok t.base))->∀S:SS,(∀e∈S.effs,e.op=10->ok e.base)->∀e∈(l.foldl SS.step S).effs,e.op=10->ok e.base
 | [],_,S,hS=>hS
 |t::l,hl,S,hS=>KK l (fun t h=>hl t (by simp[h])) _ (Se hS (hl t Az).1 (hl t Az).2)
theorem uJ{R:Nat}{ρ:List Int}{m:Mach}(hl:ρ.length=R)(h0:m.fin=0){h:EH}(hh:h=⟨[m.words],[],m.core⟩):Inv ρ ⟨BF R,[],0⟩ ρ m h:=by
 subst hh;refine⟨by rw[hl,Em],fun z=>?_,fun t ht=>?_,rfl,rfl,⟨Int.le_refl _,rfl⟩,rfl,h0⟩
 . show Ah ρ z=ev ρ _ (((BF R)[z.toNat]?).getD (.cst 0))
   by_cases hz:z.toNat<R
   . have:(BF R)[z.toNat]?=some (.old z.toNat):=by simp[BF,hz]
     rw[this];show Ah ρ z=Ah ρ ((z.toNat:Nat):Int);unfold Ah;rw[Int.toNat_natCast]
   . have:(BF R)[z.toNat]?=none:=by rw[List.getElem?_eq_none_iff,Em];omega
     rw[this];show Ah ρ z=0;unfold Ah;rw[List.getElem?_eq_none_iff.2 Ab];rfl
 . simp only[BF,List.mem_map]at ht;obtain⟨v,_,rfl⟩:=ht;exact trivial
def ju(l:List Tac):Prop:=∀t∈l,(1<=t.op/\t.op<=10)/\(t.op=3->4<=t.k/\t.k<=15)
def BFunc.tops(f:BFunc):Prop:=∀x∈f.blocks,ju x.ins
theorem TN{f:BFunc}(h:f.stands=true)(hw:f.words):f.tops:=fun x hx t ht=>by
 have hT:=GV h hx ht (hw x hx t ht);exact⟨hT.op,hT.k⟩
structure MY(old new:BFunc)(c:Cert):Prop where
  g:Tr old new c
  so:MW old
  sn:MW new
  to:old.tops
  tn:new.tops
theorem ZX{old new:BFunc}{c:Cert}(ho:old.words)(hn:new.words)(h:Cg old new c=true):MY old new c:=by
 have hG:=(R4 ho hn).1 h;have hV:=DT hG.sh;exact⟨hG,Dl hV.so,Dl hV.sn,TN hV.so ho,TN hV.sn hn⟩
theorem VI{x:Block}(hf:x.fin=1\/x.fin=2\/x.fin=3)(h3:(x.fin==3)=false)(regs:List Int):x.next regs∈x.nexts:=by
 unfold Block.next Block.nexts;rcases hf with e|e|e
 . rw[e];simp
 . rw[e]
   cases (2:Int)==2&&Ah regs x.v==0<;>simp
 . rw[e]at h3;cases h3
theorem cG{x y:Block}(h:x.fin=y.fin/\x.to=y.to/\x.els=y.els){r r':List Int}(hv:x.fin=2->Ah r x.v=Ah r' y.v):x.next r=y.next r':=by
 unfold Block.next;rw[h.1,h.2.1,h.2.2]
 by_cases hf:y.fin=2
 . rw[hv (h.1.trans hf)]
 . rw[show(y.fin==2)=false by simpa using hf];rfl
theorem Tl(ρ:List Int)(row:List Bool):GA ρ ρ row:=fun _ _=>rfl
section
variable {call call' : Int -> Mach -> Mach} {s : ByteArray} {ok : Int -> Prop}
theorem VV(hc:K8 call call' ok){R:Nat}{x y:Block}{c:Cert}{i:Int}{next:List Int}(hG:Up R x y c i next)
 (hx:ju x.ins) (hy:ju y.ins) (hok:∀t∈x.ins,t.op=10->ok t.base) {ρ ρ':List Int} (hl:ρ.length=R) (hl':ρ'.length=R) (ha:GA ρ ρ' (c.at' i)) {m:Mach} (h0:m.fin=0):
 (kins call s x.ins ρ m).1=(kins call' s y.ins ρ' m).1/\(kins call s x.ins ρ m).2.2=(kins call' s y.ins ρ' m).2.2/\((kins call s x.ins ρ m).1=true->(kins call s x.ins ρ m).2.2.fin=0/\(kins call s x.ins ρ m).2.1.length=R/\(kins call' s y.ins ρ' m).2.1.length=R/\
  (∀k∈next,GA (kins call s x.ins ρ m).2.1 (kins call' s y.ins ρ' m).2.1 (c.at' k))/\(x.fin=2->Ah (kins call s x.ins ρ m).2.1 x.v=Ah (kins call' s y.ins ρ' m).2.1 y.v)):=by
 obtain⟨g1,g2,g3,g4⟩:=hG;obtain⟨es,he,r,hr1,hr2⟩:=Pb (call:=call) (s:=s) x.ins hx ⟨BF R,[],0⟩ ρ m ⟨[m.words],[],m.core⟩ (uJ hl h0 rfl);obtain⟨es',he',r',hr1',hr2'⟩:=Pb (call:=call') (s:=s) y.ins hy ⟨BF R,[],0⟩ ρ' m ⟨[m.words],[],m.core⟩ (uJ hl' h0 rfl);have e1:es=(BT (BF R) x.ins).effs:=by rw[BT,he];rfl
 have e2:es'=(BT (BF R) y.ins).effs:=by rw[BT,he'];rfl
 have hees:es=es':=by rw[e1,e2,g1]
 subst hees;have hoe:∀e∈es,e.op=10->ok e.base:=by
  rw[e1];exact KK x.ins (fun t ht=>⟨(hx t ht).1,hok t ht⟩) _ (fun e he=>by simp at he)
 have hd:=Ur hc ha hoe (by rw[e2];exact g2) hr1 hr1';subst hd
 cases r with
 |stop f c=>exact⟨hr2.1.trans hr2'.1.symm,Me (hr2.2.2.2.trans hr2'.2.2.2.symm) (hr2.2.1.trans hr2'.2.1.symm),fun h=>by rw[hr2.1]at h;cases h⟩
 |ok h=>
  obtain⟨p1,I1⟩:=hr2;obtain⟨q1,I2⟩:=hr2';have key:∀{z z':Int},tget (BT (BF R) x.ins).regs z=tget (BT (BF R) y.ins).regs z'->(tget (BT (BF R) y.ins).regs z').inR (c.at' i)->Ah (kins call s x.ins ρ m).2.1 z=Ah (kins call' s y.ins ρ' m).2.1 z':=fun {z z'} h1 h2=>by
   have a1:=I1.reg z;have a2:=I2.reg z';have h1':tget (x.ins.foldl SS.step ⟨BF R,[],0⟩).regs z=tget (y.ins.foldl SS.step ⟨BF R,[],0⟩).regs z':=h1;rw[a1,a2,h1'];exact Pp ha h2
  refine⟨p1.trans q1.symm,Me (I1.core.symm.trans I2.core) (I1.fin.trans I2.fin.symm),fun _=>⟨I1.fin,?_,?_,fun k hk j hj=>?_,fun hf=>?_⟩⟩
  . rw[I1.len,Oc,Em]
  . rw[I2.len,Oc,Em]
  . obtain⟨u1,u2⟩:=g4 k hk j hj;exact key u1 u2
  . obtain⟨u1,u2⟩:=g3 hf;exact key u1 u2
variable {old new : BFunc} {c : Cert}
theorem Pd{f:BFunc}{k:Block}{i:Int}(hk:f.blocks[i.toNat]?=some k)(g:Nat)(regs:List Int)(m:Mach):kblk call s f (g+1) i regs m=
 bif (kins call s k.ins regs m.tick).1&& !(k.fin==3)then kblk call s f g (k.next (kins call s k.ins regs m.tick).2.1) (kins call s k.ins regs m.tick).2.1 (kins call s k.ins regs m.tick).2.2 else(kins call s k.ins regs m.tick).2.2:=by
 rw[kblk,hk]
theorem Um(hc:K8 call call' ok)(hC:MY old new c)(hok:∀x∈old.blocks,∀t∈x.ins,t.op=10->ok t.base):
 ∀(g:Nat) (i:Int) (ρ ρ':List Int) (m:Mach),0<=i/\i<old.blocks.length->ρ.length=old.regs.toNat->ρ'.length=old.regs.toNat->GA ρ ρ' (c.at' i)->m.fin=0->kblk call s old g i ρ m=kblk call' s new g i ρ' m
 |0,_,_,_,_,_,_,_,_,_=>rfl
 |g+1,i,ρ,ρ',m,hi,hl,hl',ha,h0=>by
  have hV:=DT hC.g.sh;obtain⟨x,hx⟩:=Ag (l:=old.blocks) (k:=i.toNat) Ab;obtain⟨y,hy⟩:=Ag (l:=new.blocks) (k:=i.toNat) (by have:=hV.len;omega);have hxm:=List.mem_of_getElem? hx;have hym:=List.mem_of_getElem? hy;have hi2:((i.toNat:Nat):Int)=i:=by omega
  have hgs:=hC.g.b i.toNat x y hx hy;rw[hi2]at hgs;have hb:=hV.b i.toNat x y hx hy;obtain⟨h1,h2,h3⟩:=VV (call:=call) (call':=call') (s:=s) hc hgs (hC.to x hxm) (hC.tn y hym) (hok x hxm) hl hl' ha (m:=m.tick) h0;rw[Pd hx,Pd hy,<-h1,<-h2,<-hb.1];generalize hX:kins call s x.ins ρ m.tick=X at h1 h2 h3|-;generalize hY:kins call' s y.ins ρ' m.tick=Y at h1 h2 h3|-;obtain⟨X1,X2,X3⟩:=X;obtain⟨Y1,Y2,Y3⟩:=Y
  cases X1 with
  |false=>rfl
  |true=>
   obtain⟨h4,h5,h6,h7,h8⟩:=h3 rfl
   cases hfin:x.fin==3 with
   |true=>rfl
   |false=>
    simp only[Bool.not_false,Bool.and_self,cond_true];have hn:=cG hb (r:=X2) (r':=Y2) h8;have hnm:=VI (hC.so.fin x hxm) hfin X2;rw[<-hn];exact Um hc hC hok g _ _ _ _ (hC.so.next x hxm _ hnm) h5 h6 (h7 _ hnm) h4
end
def Yu:Int->Prop:=fun _=>True
theorem Mach.Le.tick{x y:Mach}(h:x.Le y):x.tick.Le y.tick:=⟨h.words,h.out,h.read,h.fin,Nat.succ_le_succ h.steps⟩
theorem Mach.Le.late{x y:Mach}(h:x.Le y):x.tick.Le y:=⟨h.words,h.out,h.read,h.fin,Nat.le_succ_of_le h.steps⟩
section
variable {call call' : Int -> Mach -> Mach} {s : ByteArray}
theorem Jf(hc:CW call call' Yu):∀(l:List Tac) (regs:List Int) {m m':Mach},m.fin=0->m.Le m'->jx (kins call s l regs m) (kins call' s l regs m')
 | [],regs,m,m',h0,h=>.inr ⟨rfl,rfl,h,fun _=>h0,fun e=>by cases e⟩
 |t::r,regs,m,m',h0,h=>by
  unfold kins;obtain⟨b1,b2⟩:=QK (s:=s) hc t (fun _=>trivial) regs h0 h;rcases b2 with b2|b2
  . rw[show((AB call s t regs m).2.fin==0)=false by rw[b2];rfl];exact .inl ⟨rfl,b2⟩
  . rw[b2.fin,<-b1]
    cases hf:(AB call s t regs m).2.fin==0 with
    |false=>
     simp only[cond_false];exact .inr ⟨rfl,b1,b2,JH,fun _=>by simpa using hf⟩
    |true=>
     simp only[cond_true];exact Jf hc r _ (by simpa using hf) b2
theorem KG:∀(l1 l2:List Tac) (regs:List Int) (m:Mach),kins call s (l1++l2) regs m=bif (kins call s l1 regs m).1 then kins call s l2 (kins call s l1 regs m).2.1 (kins call s l1 regs m).2.2 else kins call s l1 regs m
 | [],l2,regs,m=>rfl
 |t::r,l2,regs,m=>by
  simp only[List.cons_append,kins]
  cases (AB call s t regs m).2.fin==0 with
  |false=>rfl
  |true=>exact KG r l2 _ _
def D9(call:Int->Mach->Mach)(s:ByteArray)(f:BFunc)(k:Block)(g:Nat)(regs:List Int)(m:Mach):Mach:=
  bif k.fin==3 then m else kblk call s f g (k.next regs) regs m
theorem FY{f:BFunc}{i:Int}{k:Block}(hk:f.blocks[i.toNat]?=some k)(g:Nat)(regs:List Int)(m:Mach):kblk call s f (g+1) i regs m=
 bif (kins call s k.ins regs m.tick).1 then D9 call s f k g (kins call s k.ins regs m.tick).2.1 (kins call s k.ins regs m.tick).2.2 else(kins call s k.ins regs m.tick).2.2:=by
 rw[Pd hk,D9]
 cases (kins call s k.ins regs m.tick).1<;>cases k.fin==3<;>rfl
theorem J3{f:BFunc}{i:Int}(hi:0<=i/\i<f.blocks.length)(g:Nat)(regs:List Int)(m:Mach):kblk call s f (g+1) i regs m=
 bif (kins call s (f.blockAt i).ins regs m.tick).1 then D9 call s f (f.blockAt i) g (kins call s (f.blockAt i).ins regs m.tick).2.1 (kins call s (f.blockAt i).ins regs m.tick).2.2 else(kins call s (f.blockAt i).ins regs m.tick).2.2:=
 FY (Ct hi) g regs m
theorem FX(hc:CW call call' Yu){f:BFunc}:∀(g:Nat) (i:Int) (regs:List Int) {m m':Mach},m.fin=0->m.Le m'->(kblk call s f g i regs m).Sim (kblk call' s f g i regs m')
 |0,_,_,_,_,_,_=>.inl rfl
 |g+1,i,regs,m,m',h0,h=>by
  cases hk:f.blocks[i.toNat]? with
  |none=>unfold kblk;rw[hk];exact .inr h
  |some k=>
   rw[FY hk,FY hk];have hs:=Jf (s:=s) hc k.ins regs (m:=m.tick) (m':=m'.tick) h0 h.tick;generalize kins call s k.ins regs m.tick=X at hs|-;generalize kins call' s k.ins regs m'.tick=Y at hs|-;obtain⟨X1,X2,X3⟩:=X;obtain⟨Y1,Y2,Y3⟩:=Y;rcases hs with⟨h1,h2⟩|⟨h1,h2,h3,h4,h5⟩
   . simp only at h1 h2;subst h1;exact .inl h2
   . simp only at h1 h2 h3 h4 h5;subst h1;subst h2
     cases X1 with
     |false=>exact .inr h3
     |true=>
      simp only[cond_true];unfold D9
      cases hfin:k.fin==3 with
      |true=>exact .inr h3
      |false=>exact FX hc g _ _ (h4 rfl) h3
variable {old new : BFunc}
theorem N3(hc:CW call call' Yu):
 ∀(p:List Int),p≠[]->(∀i∈p,0<=i/\i<old.blocks.length)->fol old p->∀(g:Nat) (regs:List Int) (m m':Mach),m.fin=0->m.tick.Le m'->
  (kblk call s old g (Dp p) regs m).fin=5\/
  ((kins call' s (old.joined p) regs m').1=false/\(kblk call s old g (Dp p) regs m).Le (kins call' s (old.joined p) regs m').2.2)\/
  ((kins call' s (old.joined p) regs m').1=true/\∃m2 g2,m2.Le (kins call' s (old.joined p) regs m').2.2/\m2.fin=0/\g2<g/\
   kblk call s old g (Dp p) regs m=D9 call s old (old.blockAt (DJ p)) g2 (kins call' s (old.joined p) regs m').2.1 m2)
 | [],h,_,_,_,_,_,_,_,_=>absurd rfl h
 |_,_,_,_,0,_,_,_,_,_=>.inl rfl
 | [i],_,hin,_,g1+1,regs,m,m',h0,h=>by
  have hi:=hin i Az;have e:old.joined [i]=(old.blockAt i).ins:=by simp[BFunc.joined]
  have hs:=Jf (s:=s) hc (old.blockAt i).ins regs (m:=m.tick) h0 h;rw[e,show Dp [i]=i from rfl,show DJ [i]=i from rfl,J3 hi];generalize kins call s (old.blockAt i).ins regs m.tick=X at hs|-;generalize kins call' s (old.blockAt i).ins regs m'=Y at hs|-;obtain⟨X1,X2,X3⟩:=X;obtain⟨Y1,Y2,Y3⟩:=Y;rcases hs with⟨h1,h2⟩|⟨h1,h2,h3,h4,h5⟩
  . simp only at h1 h2;subst h1;exact .inl h2
  . simp only at h1 h2 h3 h4 h5;subst h1;subst h2
    cases X1 with
    |false=>exact .inr (.inl ⟨rfl,h3⟩)
    |true=>exact .inr (.inr ⟨rfl,X3,g1,h3,h4 rfl,Nat.lt_succ_self _,rfl⟩)
 |i::j::r,_,hin,hfo,g1+1,regs,m,m',h0,h=>by
  have hi:=hin i Az;have e:old.joined (i::j::r)=(old.blockAt i).ins++old.joined (j::r):=by simp[BFunc.joined]
  have hs:=Jf (s:=s) hc (old.blockAt i).ins regs (m:=m.tick) h0 h;have hl:DJ (i::j::r)=DJ (j::r):=by simp[DJ]
  rw[e,show Dp (i::j::r)=i from rfl,hl,J3 hi,KG];generalize kins call s (old.blockAt i).ins regs m.tick=X at hs|-;generalize kins call' s (old.blockAt i).ins regs m'=Y at hs|-;obtain⟨X1,X2,X3⟩:=X;obtain⟨Y1,Y2,Y3⟩:=Y;rcases hs with⟨h1,h2⟩|⟨h1,h2,h3,h4,h5⟩
  . simp only at h1 h2;subst h1;exact .inl h2
  . simp only at h1 h2 h3 h4 h5;subst h1;subst h2
    cases X1 with
    |false=>exact .inr (.inl ⟨rfl,h3⟩)
    |true=>
     simp only[cond_true];have hx0:=h4 rfl;have hn3:((old.blockAt i).fin==3)=false:=by rw[hfo.1];rfl
     have hnx:(old.blockAt i).next X2=j:=by simp[Block.next,hfo.1,hfo.2.1]
     have ec:D9 call s old (old.blockAt i) g1 X2 X3=kblk call s old g1 j X2 X3:=by rw[D9,hn3,hnx];rfl
     have ih:=N3 hc (j::r) Az (fun x hx=>hin x (by simp at hx|-;exact .inr hx)) hfo.2.2 g1 X2 X3 Y3 hx0 h3.late;rw[show Dp (j::r)=j from rfl]at ih;rw[ec];rcases ih with ih|ih|⟨ih1,m2,g2,q1,q2,q4,q5⟩
     . exact .inl ih
     . exact .inr (.inl ih)
     . exact .inr (.inr ⟨ih1,m2,g2,q1,q2,by omega,q5⟩)
theorem N2{paths:List (List Int)}(hH:UE old new paths)(hend:∀x∈old.blocks,x.fin=1\/x.fin=2\/x.fin=3)(hc:CW call call' Yu):
 ∀(n g:Nat),g<=n->∀(g':Nat) (k:Int) (regs:List Int) (m m':Mach),m.fin=0->m.Le m'->g<=g'->0<=k/\k<paths.length->
  (kblk call s old g (Dp (C5 paths k)) regs m).Sim (kblk call' s new g' k regs m')
 |n,0,_,_,_,_,_,_,_,_,_,_=>.inl rfl
 |0,g+1,hgn,_,_,_,_,_,_,_,_,_=>absurd hgn Ab
 |n+1,g+1,hgn,g',k,regs,m,m',h0,h,hg,hk=>by
  obtain⟨g1',rfl⟩:∃g1,g'=g1+1:=⟨g'-1,by omega⟩
  have hpk:=JU hk;have ek:((k.toNat:Nat):Int)=k:=Int.toNat_of_nonneg hk.1;have hin:=hH.all _ (List.mem_of_getElem? hpk);have hins:=hH.ins _ _ hpk;have hle:=hH.leads _ _ hpk;rw[ek]at hins hle;have hkn:0<=k/\k<new.blocks.length:=by rw[<-hH.len];exact hk
  have ps:=N3 (call:=call) (call':=call') (s:=s) hc (C5 paths k) hin.1 hin.2 (hH.fol _ _ hpk) (g+1) regs m m'.tick h0 h.tick;rw[J3 hkn,hins];generalize kins call' s (old.joined (C5 paths k)) regs m'.tick=Y at ps|-;generalize hX:kblk call s old (g+1) (Dp (C5 paths k)) regs m=X at ps|-;obtain⟨Y1,Y2,Y3⟩:=Y;rcases ps with ps|⟨p1,p2⟩|⟨p1,m2,g2,q1,q2,q4,q5⟩
  . exact .inl ps
  . simp only at p1;subst p1;exact .inr p2
  . simp only at p1 q1 q5;subst p1;simp only[cond_true];rw[q5];unfold D9;obtain⟨l1,l2,l3,l4,l5,l6⟩:=KC hle;have hlast:=hin.2 _ (Mh hin.1);have hfin:=hend _ (List.mem_of_getElem? (Ct hlast));rw[l1]
    cases h3:(old.blockAt (DJ (C5 paths k))).fin==3 with
    |true=>exact .inr q1
    |false=>
     simp only[cond_false];have h12:(new.blockAt k).fin=1\/(new.blockAt k).fin=2:=by
      rw[l1];rcases hfin with e|e|e
      . exact .inl e
      . exact .inr e
      . rw[e]at h3;cases h3
     have bt:=Jy (l3 h12);have key:0<=(new.blockAt k).next Y2/\(new.blockAt k).next Y2<paths.length/\(old.blockAt (DJ (C5 paths k))).next Y2=Dp (C5 paths ((new.blockAt k).next Y2)):=by
      unfold Block.next;rw[<-l1,<-l2]
      cases hc2:(new.blockAt k).fin==2&&Ah Y2 (new.blockAt k).v==0 with
      |false=>exact⟨bt.1,bt.2.1,bt.2.2.symm⟩
      |true=>
       simp only[Bool.and_eq_true,beq_iff_eq]at hc2;have be:=Jy (l5 hc2.1);exact⟨be.1,be.2.1,be.2.2.symm⟩
     rw[key.2.2];exact N2 hH hend hc n g2 Ab g1' _ _ _ _ q2 q1 Ab ⟨key.1,key.2.1⟩
end
def FSm(f g:BFunc):Prop:=∀(call:Int->Mach->Mach) (s:ByteArray) (G:Nat),CW call call Yu->∀m m',m.fin=0->m.Le m'->
  (kblk call s f G 0 (List.replicate f.regs.toNat 0) m).Sim (kblk call s g G 0 (List.replicate g.regs.toNat 0) m')
theorem FSm.rfl'(f:BFunc):FSm f f:=fun call s G hc m m' h0 h=>FX hc G _ _ h0 h
theorem FSm.trans{f g h:BFunc}(h1:FSm f g)(h2:FSm g h):FSm f h:=fun call s G hc m m' h0 hl=>(h1 call s G hc m m' h0 hl).trans (h2 call s G hc m' m' (hl.fin.trans h0) (Mach.Le.refl _))
theorem aI{f g:BFunc}{paths:List (List Int)}(hH:UE f g paths)(hend:∀x∈f.blocks,x.fin=1\/x.fin=2\/x.fin=3):FSm f g:=fun call s G hc m m' h0 hl=>by
 have:=N2 (s:=s) hH hend hc G G (Nat.le_refl _) G 0 (List.replicate f.regs.toNat 0) m m' h0 hl (Nat.le_refl _) ⟨Int.le_refl _,by have:=hH.ne;omega⟩;rw[hH.head]at this;rw[<-hH.regs];exact this
theorem WK{f g:BFunc}{c:Cert}(hC:MY f g c):FSm f g:=fun call s G hc m m' h0 hl=>by
 have hV:=DT hC.g.sh;have hn:0<f.blocks.length:=by have:=hC.so.ne;omega
 have he:=Um (call:=call) (call':=call) (s:=s) (ok:=Yu) (fun i m _ _=>rfl) hC (fun _ _ _ _ _=>trivial) G 0 (List.replicate f.regs.toNat 0) (List.replicate f.regs.toNat 0) m ⟨Int.le_refl _,by omega⟩ Az Az (Tl _ _) h0;rw[he,show f.regs=g.regs from hV.regs];exact FX hc G _ _ h0 hl
structure PS(b c:Blocks):Prop where
  words:b.words=c.words
  len:b.funcs.length=c.funcs.length
  each:∀(i:Nat) (f g:BFunc),b.funcs[i]?=some f->c.funcs[i]?=some g->FSm f g
theorem N5{b:Blocks}{s:ByteArray}{G:Nat}:∀n,CW (kfun b s G n) (kfun b s G n) Yu
 |0=>fun i m m' _ _ h=>.inr h
 |n+1=>fun i m m' _ h0 h=>by
  unfold kfun
  cases hf:b.funcs[i.toNat]? with
  |none=>exact .inr h
  |some f=>exact FX (N5 n) G _ _ h0 h
theorem QT{b c:Blocks}(hP:PS b c){s:ByteArray}{G:Nat}:∀n,CW (kfun b s G n) (kfun c s G n) Yu
 |0=>fun i m m' _ _ h=>.inr h
 |n+1=>fun i m m' _ h0 h=>by
  unfold kfun
  cases hf:b.funcs[i.toNat]? with
  |none=>
   have:c.funcs[i.toNat]?=none:=by rw[List.getElem?_eq_none_iff]at hf|-;have:=hP.len;omega
   rw[this];exact .inr h
  |some f=>
   obtain⟨g,hg⟩:=Ag (l:=c.funcs) (k:=i.toNat) (by have:=(List.getElem?_eq_some_iff.1 hf).1;have:=hP.len;omega);rw[hg];exact(hP.each _ f g hf hg _ s G (N5 n) m m' h0 h).trans (FX (QT hP n) G _ _ (h.fin.trans h0) (Mach.Le.refl _))
section
variable {call call' : Int -> Mach -> Mach} {s : ByteArray} {fuel : Int}
def xZ(X Y:Bool×List Int×Mach):Prop:=X.1=false/\X.2.2.fin=5\/X.1=Y.1/\X.2.1=Y.2.1/\(X.1=true->X.2.2.fin=0/\X.2.2.tick.Le Y.2.2)/\(X.1=false->X.2.2.Le Y.2.2)
theorem Gj{m:Mach}(h:(Bu fuel m).1=true):(Bu fuel m).2=m.tick:=(E0 h).2
theorem YS(hc:CW call call' Yu):∀(l:List Tac) (regs:List Int) {m m':Mach},m.fin=0->m.tick.Le m'->xZ (D1 call s fuel l regs m) (kins call' s l regs m')
 | [],regs,m,m',h0,h=>.inr ⟨rfl,rfl,fun _=>⟨h0,h⟩,fun e=>by cases e⟩
 |t::r,regs,m,m',h0,h=>by
  unfold D1 kins
  cases h1:(Bu fuel m).1 with
  |false=>exact .inl ⟨rfl,Kx h1⟩
  |true=>
   rw[Gj h1];obtain⟨b1,b2⟩:=QK (s:=s) hc t (fun _=>trivial) regs (m:=m.tick) h0 h;simp only[cond_true];rcases b2 with b2|b2
   . rw[show((AB call s t regs m.tick).2.fin==0)=false by rw[b2];rfl];exact .inl ⟨rfl,b2⟩
   . rw[b2.fin,<-b1]
     cases hf:(AB call s t regs m.tick).2.fin==0 with
     |false=>
      simp only[cond_false];exact .inr ⟨rfl,b1,JH,fun _=>b2⟩
     |true=>
      simp only[cond_true];exact YS hc r _ (by simpa using hf) b2.late
theorem YX(hc:CW call call' Yu)(hcs:∀i m,m.steps<=(call i m).steps){f:BFunc}:
 ∀(g:Nat) (g':Nat) (i:Int) (regs:List Int) (m m':Mach),m.fin=0->m.Le m'->0<g->0<g'->Dr fuel g m->Dr fuel g' m->(FU call s fuel f g i regs m).Sim (kblk call' s f g' i regs m')
 |0,_,_,_,_,_,_,_,h,_,_,_=>absurd h Ab
 |_+1,0,_,_,_,_,_,_,_,h,_,_=>absurd h Ab
 |g+1,g'+1,i,regs,m,m',h0,h,_,_,hg,hg'=>by
  cases hk:f.blocks[i.toNat]? with
  |none=>unfold FU kblk;rw[hk];exact .inr h
  |some k=>
   rw[FY hk];unfold FU;rw[hk];have hs:=YS (s:=s) (fuel:=fuel) hc k.ins regs (m:=m) (m':=m'.tick) h0 h.tick;have hst:=D0 (s:=s) (fuel:=fuel) hcs k.ins regs m;dsimp only;generalize D1 call s fuel k.ins regs m=X at hs hst|-;generalize kins call' s k.ins regs m'.tick=Y at hs|-;obtain⟨X1,X2,X3⟩:=X;obtain⟨Y1,Y2,Y3⟩:=Y;rcases hs with⟨h1,h2⟩|⟨h1,h2,h3,h4⟩
   . simp only at h1 h2;subst h1;exact .inl h2
   . simp only at h1 h2 h3 h4 hst;subst h1;subst h2
     cases X1 with
     |false=>exact .inr (h4 rfl)
     |true=>
      obtain⟨h5,h6⟩:=h3 rfl;simp only[cond_true];unfold D9
      cases hm:(Bu fuel X3).1 with
      |false=>simp only[Bool.false_and,cond_false];exact .inl (Kx hm)
      |true=>
       obtain⟨e1,e2⟩:=E0 hm;rw[Gj hm]
       cases hfin:k.fin==3 with
       |true=>exact .inr h6
       |false=>
        simp only[Bool.not_false,Bool.and_self,cond_true,cond_false];refine YX hc hcs g g' _ _ _ _ h5 h6 ?_ ?_ ?_ ?_
        . unfold Dr at hg;omega
        . unfold Dr at hg';omega
        . unfold Dr at hg|-;show _<X3.steps+1+g;omega
        . unfold Dr at hg'|-;show _<X3.steps+1+g';omega
end
theorem YV{b:Blocks}{s:ByteArray}{fuel:Int}:∀n,CW (mfun b s fuel n) (kfun b s (fuel.toNat+1) n) Yu
 |0=>fun i m m' _ _ h=>.inr h
 |n+1=>fun i m m' _ h0 h=>by
  unfold mfun kfun
  cases hf:b.funcs[i.toNat]? with
  |none=>exact .inr h
  |some f=>
   refine YX (YV n) (fun j m=>Gk n j m) _ _ _ _ _ _ h0 h (Nat.succ_pos _) (Nat.succ_pos _) ?_ ?_
   . unfold Dr;omega
   . unfold Dr;omega
structure aL(K d:Nat)(x y:Mach):Prop where
  words:y.words=x.words
  out:y.out=x.out
  read:y.read=x.read
  fin:y.fin=x.fin
  steps:y.steps+d<=K*x.steps
def eq(K:Nat)(fuel:Int)(d:Nat)(x y:Mach):Prop:=x.fin=5\/fuel.toNat<K*x.steps\/aL K d x y
def Pt(K:Nat)(fuel:Int)(call call':Int->Mach->Mach):Prop:=∀i x y d,x.fin=0->aL K d x y->eq K fuel d (call i x) (call' i y)
section
variable {call call' : Int -> Mach -> Mach} {s : ByteArray} {fuel : Int} {K : Nat}
theorem jg(hc:Pt K fuel call call')(t:Tac)(regs:List Int){x y:Mach}{d:Nat}(h0:x.fin=0)(h:aL K d x y):
 (AB call s t regs x).1=(AB call' s t regs y).1/\eq K fuel d (AB call s t regs x).2 (AB call' s t regs y).2:=by
 obtain⟨w,o,r,st,f⟩:=x;obtain⟨w',o',r',st',f'⟩:=y;obtain⟨h1,h2,h3,h4,h5⟩:=h;simp only at h1 h2 h3 h4 h5;subst h1;subst h2;subst h3;subst h4;have hle:∀(a:List Int) (b:List UInt8) (c:Nat) (e:Int),aL K d ⟨a,b,c,st,e⟩ ⟨a,b,c,st',e⟩:=fun a b c e=>⟨rfl,rfl,rfl,rfl,h5⟩
 have I:∀{x y:Mach},aL K d x y->eq K fuel d x y:=fun h=>.inr (.inr h)
 unfold AB
 cases t.op==1 with
 |true=>exact⟨rfl,I (hle _ _ _ _)⟩
 |false=>
 cases t.op==2 with
 |true=>exact⟨rfl,I (hle _ _ _ _)⟩
 |false=>
 cases t.op==3 with
 |true=>
  grind
 |false=>
 cases t.op==4 with
 |true=>exact⟨rfl,I (hle _ _ _ _)⟩
 |false=>
 cases t.op==5 with
 |true=>exact⟨rfl,I (hle _ _ _ _)⟩
 |false=>
 cases t.op==6 with
 |true=>
  grind
 |false=>
 cases t.op==7 with
 |true=>
  grind
 |false=>
 cases t.op==8 with
 |true=>
  grind
 |false=>
 cases t.op==9 with
 |true=>
  grind
 |false=>
 cases h10:t.op==10 with
 |true=>exact⟨rfl,hc _ _ _ _ h0 (hle _ _ _ _)⟩
 |false=>exact⟨rfl,I (hle _ _ _ _)⟩
theorem QS(hcs:∀i m,m.steps<=(call i m).steps)(t:Tac)(regs:List Int)(m:Mach):m.steps<=(AB call s t regs m).2.steps:=by
 unfold AB
 cases t.op==1<;>simp only[cond_true,cond_false,Nat.le_refl]
 grind
theorem Gn(hcs:∀i m,m.steps<=(call i m).steps):∀(l:List Tac) (regs:List Int) (m:Mach),m.steps<=(kins call s l regs m).2.2.steps
 | [],_,_=>Nat.le_refl _
 |t::r,regs,m=>by
  unfold kins;have h:=QS (s:=s) hcs t regs m
  cases (AB call s t regs m).2.fin==0 with
  |false=>exact h
  |true=>exact Nat.le_trans h (Gn hcs r _ _)
theorem Gp(hcs:∀i m,m.steps<=(call i m).steps){f:BFunc}:∀(g:Nat) (i:Int) (regs:List Int) (m:Mach),m.steps<=(kblk call s f g i regs m).steps
 |0,_,_,_=>Nat.le_refl _
 |g+1,i,regs,m=>by
  cases hk:f.blocks[i.toNat]? with
  |none=>unfold kblk;rw[hk];exact Nat.le_refl _
  |some k=>
   rw[FY hk];have h:=Gn (s:=s) hcs k.ins regs m.tick;have h':m.steps<=(kins call s k.ins regs m.tick).2.2.steps:=Nat.le_trans (Nat.le_succ _) h
   cases (kins call s k.ins regs m.tick).1 with
   |false=>exact h'
   |true=>
    unfold D9
    cases k.fin==3 with
    |true=>exact h'
    |false=>exact Nat.le_trans h' (Gp hcs g _ _ _)
def x8(K:Nat)(fuel:Int)(d:Nat)(X Y:Bool×List Int×Mach):Prop:=X.1=false/\X.2.2.fin=5\/fuel.toNat<K*X.2.2.steps\/X.1=Y.1/\X.2.1=Y.2.1/\aL K (d+1) X.2.2 Y.2.2/\(X.1=true->X.2.2.fin=0)
theorem Sw{a b:Nat}(h:fuel.toNat<K*a)(hab:a<=b):fuel.toNat<K*b:=Nat.lt_of_lt_of_le h (Nat.mul_le_mul_left _ hab)
theorem YT(hc:Pt K fuel call call')(hcs:∀i m,m.steps<=(call i m).steps){d:Nat}:∀(l:List Tac) (regs:List Int) {x y:Mach},x.fin=0->aL K (d+l.length+1) x y->x8 K fuel d (kins call s l regs x) (D1 call' s fuel l regs y)
 | [],regs,x,y,h0,h=>.inr (.inr ⟨rfl,rfl,h,fun _=>h0⟩)
 |t::r,regs,x,y,h0,h=>by
  have hlen:(t::r).length=r.length+1:=rfl;have hks:=Gn (s:=s) hcs (t::r) regs x;have hst:=h.steps
  cases h1:(Bu fuel y).1 with
  |false=>
   have h2:(y.steps:Int)>=fuel:=by
    unfold Bu at h1
    cases e:decide ((y.steps:Int)>=fuel)with
    |true=>simpa using e
    |false=>rw[e]at h1;cases h1
   refine .inr (.inl (Sw (a:=x.steps) ?_ hks));omega
  |true=>
   have hy:aL K (d+r.length+1) x y.tick:=⟨h.words,h.out,h.read,h.fin,by show y.steps+1+_<=_;omega⟩;obtain⟨b1,b2⟩:=jg (s:=s) hc t regs h0 hy;rw[kins]at hks|-;rw[D1,h1,Gj h1];simp only[cond_true];rcases b2 with b2|b2|b2
   . rw[show((AB call s t regs x).2.fin==0)=false by rw[b2];rfl];exact .inl ⟨rfl,b2⟩
   . refine .inr (.inl ?_)
     cases hf:(AB call s t regs x).2.fin==0 with
     |false=>exact b2
     |true=>exact Sw b2 (Gn hcs r _ _)
   . rw[b2.fin,<-b1]
     cases hf:(AB call s t regs x).2.fin==0 with
     |false=>
      simp only[cond_false];exact .inr (.inr ⟨rfl,b1,⟨b2.words,b2.out,b2.read,b2.fin,by have:=b2.steps;show(AB call' s t regs y.tick).2.steps+(d+1)<=K*(AB call s t regs x).2.steps;omega⟩,fun e=>by cases e⟩)
     |true=>
      simp only[cond_true];exact YT hc hcs r _ (by simpa using hf) b2
theorem YY(hc:Pt K fuel call call')(hcs:∀i m,m.steps<=(call i m).steps)(hcs':∀i m,m.steps<=(call' i m).steps){f:BFunc}(hK:∀x∈f.blocks,x.ins.length+1<=K){d:Nat}:
 ∀(g:Nat) (g':Nat) (i:Int) (regs:List Int) (x y:Mach),x.fin=0->aL K d x y->0<g'->Dr fuel g' y->eq K fuel d (kblk call s f g i regs x) (FU call' s fuel f g' i regs y)
 |0,_,_,_,_,_,_,_,_,_=>.inl rfl
 |_+1,0,_,_,_,_,_,_,h,_=>absurd h Ab
 |g+1,g'+1,i,regs,x,y,h0,h,_,hg'=>by
  cases hk:f.blocks[i.toNat]? with
  |none=>unfold FU kblk;rw[hk];exact .inr (.inr h)
  |some k=>
   have hKk:=hK k (List.mem_of_getElem? hk);have hmul:K*x.tick.steps=K*x.steps+K:=Nat.mul_succ _ _;have hy:aL K (d+k.ins.length+1) x.tick y:=⟨h.words,h.out,h.read,h.fin,by have:=h.steps;rw[hmul];omega⟩;have hb:=YT (s:=s) hc hcs k.ins regs (x:=x.tick) (y:=y) h0 hy;have hst:=D0 (s:=s) (fuel:=fuel) hcs' k.ins regs y;rw[FY hk];unfold FU;rw[hk];dsimp only;generalize kins call s k.ins regs x.tick=X at hb|-;generalize D1 call' s fuel k.ins regs y=Y at hb hst|-;obtain⟨X1,X2,X3⟩:=X;obtain⟨Y1,Y2,Y3⟩:=Y;rcases hb with⟨h1,h2⟩|h2|⟨h1,h2,h3,h4⟩
   . simp only at h1 h2;subst h1;exact .inl h2
   . simp only at h2;refine .inr (.inl ?_)
     cases X1 with
     |false=>exact h2
     |true=>
      simp only[cond_true];unfold D9
      cases k.fin==3 with
      |true=>exact h2
      |false=>exact Sw h2 (Gp hcs g _ _ _)
   . simp only at h1 h2 h3 h4 hst;subst h1;subst h2
     cases X1 with
     |false=>exact .inr (.inr ⟨h3.words,h3.out,h3.read,h3.fin,by have:=h3.steps;show Y3.steps+d<=K*X3.steps;omega⟩)
     |true=>
      simp only[cond_true];have hs3:=h3.steps
      cases hm:(Bu fuel Y3).1 with
      |false=>
       have h5:(Y3.steps:Int)>=fuel:=by
        unfold Bu at hm
        cases e:decide ((Y3.steps:Int)>=fuel)with
        |true=>simpa using e
        |false=>rw[e]at hm;cases hm
       have h6:fuel.toNat<K*X3.steps:=by omega
       refine .inr (.inl ?_);unfold D9
       cases k.fin==3 with
       |true=>exact h6
       |false=>exact Sw h6 (Gp hcs g _ _ _)
      |true=>
       obtain⟨e1,e2⟩:=E0 hm;rw[Gj hm];have hle:aL K d X3 Y3.tick:=⟨h3.words,h3.out,h3.read,h3.fin,by show Y3.steps+1+d<=_;omega⟩;unfold D9
       cases hfin:k.fin==3 with
       |true=>exact .inr (.inr hle)
       |false=>
        simp only[Bool.not_false,Bool.and_self,cond_true,cond_false];refine YY hc hcs hcs' hK g g' _ _ _ _ (h4 rfl) hle ?_ ?_
        . unfold Dr at hg';omega
        . unfold Dr at hg'|-;show _<Y3.steps+1+g';omega
end
theorem Mj{b:Blocks}{s:ByteArray}{G:Nat}:∀(n:Nat) (i:Int) (m:Mach),m.steps<=(kfun b s G n i m).steps
 |0,_,_=>Nat.le_refl _
 |n+1,i,m=>by
  unfold kfun
  cases b.funcs[i.toNat]? with
  |none=>exact Nat.le_refl _
  |some f=>exact Gp (fun i m=>Mj n i m) _ _ _ _
theorem YW{b:Blocks}{s:ByteArray}{fuel:Int}{K G:Nat}(hK:∀f∈b.funcs,∀x∈f.blocks,x.ins.length+1<=K):∀n,Pt K fuel (kfun b s G n) (mfun b s fuel n)
 |0=>fun i x y d _ h=>.inr (.inr h)
 |n+1=>fun i x y d h0 h=>by
  unfold mfun kfun
  cases hf:b.funcs[i.toNat]? with
  |none=>exact .inr (.inr h)
  |some f=>
   refine YY (YW hK n) (fun j m=>Mj n j m) (fun j m=>Gk n j m) (hK f (List.mem_of_getElem? hf)) _ _ _ _ _ _ h0 h (Nat.succ_pos _) ?_;unfold Dr;omega
theorem L3(b:Blocks)(s:ByteArray)(fuel:Int):(DI b s fuel).out=(mfun b s (Cb fuel) b.funcs.length ((b.funcs.length:Int)-1) (m0 b)).out/\(DI b s fuel).steps=(mfun b s (Cb fuel) b.funcs.length ((b.funcs.length:Int)-1) (m0 b)).steps/\
 (DI b s fuel).fin=(bif (mfun b s (Cb fuel) b.funcs.length ((b.funcs.length:Int)-1) (m0 b)).fin==0 then 1 else(mfun b s (Cb fuel) b.funcs.length ((b.funcs.length:Int)-1) (m0 b)).fin):=by
 unfold DI;dsimp only
 cases (mfun b s (Cb fuel) b.funcs.length ((b.funcs.length:Int)-1) (m0 b)).fin==0<;>exact⟨rfl,rfl,rfl⟩
theorem NK{b c:Blocks}(hP:PS b c)(s:ByteArray)(n:Int){K:Nat}(hK:∀f∈c.funcs,∀x∈f.blocks,x.ins.length+1<=K){fuel:Int}(hf:(K*((DI b s n).steps+1):Nat)<=fuel)(h5:(DI b s n).fin≠5):
 (DI c s fuel).fin=(DI b s n).fin/\(DI c s fuel).out=(DI b s n).out:=by
 obtain⟨o1,st1,f1⟩:=L3 b s n;obtain⟨o2,st2,f2⟩:=L3 c s fuel;have em:m0 c=m0 b:=by unfold m0;rw[hP.words]
 have el:c.funcs.length=b.funcs.length:=hP.len.symm;rw[em,el]at o2 st2 f2;have hA:=YV (b:=b) (s:=s) (fuel:=Cb n) b.funcs.length ((b.funcs.length:Int)-1) (m0 b) (m0 b) trivial rfl (Mach.Le.refl _);have hS:=QT hP (s:=s) (G:=(Cb n).toNat+1) b.funcs.length ((b.funcs.length:Int)-1) (m0 b) (m0 b) trivial rfl (Mach.Le.refl _);have hB:=YW (b:=c) (s:=s) (fuel:=Cb fuel) (K:=K) (G:=(Cb n).toNat+1) hK b.funcs.length ((b.funcs.length:Int)-1) (m0 b) (m0 b) 0 rfl ⟨rfl,rfl,rfl,rfl,Nat.zero_le _⟩;have hfp:(Cb fuel).toNat=fuel.toNat:=by unfold Cb;cases e:decide (fuel<0)<;>simp at e|-;omega
 generalize mfun b s (Cb n) b.funcs.length ((b.funcs.length:Int)-1) (m0 b)=X at*;generalize kfun b s ((Cb n).toNat+1) b.funcs.length ((b.funcs.length:Int)-1) (m0 b)=Y at*;generalize kfun c s ((Cb n).toNat+1) b.funcs.length ((b.funcs.length:Int)-1) (m0 b)=Z at*;generalize mfun c s (Cb fuel) b.funcs.length ((b.funcs.length:Int)-1) (m0 b)=U at*;have hx:X.fin≠5:=fun e=>h5 (by rw[f1,e];rfl)
 have hXZ:=(hA.trans hS).resolve_left hx;rw[st1]at hf;have hmul:=Nat.mul_le_mul_left K hXZ.steps;have hm2:K*(X.steps+1)=K*X.steps+K:=Nat.mul_succ _ _;rcases hB with h|h|h
 . exact absurd (hXZ.fin.symm.trans h) hx
 . rw[hfp]at h;omega
 . refine⟨?_,?_⟩
   . rw[f1,f2,h.fin,hXZ.fin]
   . rw[o1,o2,h.out,hXZ.out]
structure OPass where
  kind:Int
  cert:Cert
  paths:List (List Int)
  f:BFunc
def OPass.holds(p:OPass)(f:BFunc):Bool:=
  bif p.kind==4 then p.cert.same.isEmpty&&CE f p.f p.paths else decide (1<=p.kind/\p.kind<=4)&&(p.paths.isEmpty&&Cg f p.f p.cert)
def Bd:BFunc->BFunc->List OPass->Bool
  |f,g,[]=>decide (f=g)
  |f,g,p::r=>p.holds f&&Bd p.f g r
def B9:List BFunc->List BFunc->List (List OPass)->Bool
  |f::fs,g::gs,l::ls=>Bd f g l&&B9 fs gs ls
  |_,_,_=>true
def EA(old new:Blocks)(l:List (List OPass)):Bool:=
  old.right&&(new.right&&(decide (old.words=new.words)&&(decide (old.funcs.length=new.funcs.length)&&(decide (l.length=old.funcs.length)&&B9 old.funcs new.funcs l))))
theorem QC{old new:Blocks}{l:List (List OPass)}(h:EA old new l=true):old.right=true/\new.right=true/\old.words=new.words/\old.funcs.length=new.funcs.length/\l.length=old.funcs.length/\B9 old.funcs new.funcs l=true:=by
 simpa[EA]using h
theorem VD{old new:Blocks}{l:List (List OPass)}(h1:old.right=true)(h2:new.right=true)(h3:old.words=new.words)(h4:old.funcs.length=new.funcs.length)(h5:l.length=old.funcs.length)(h6:B9 old.funcs new.funcs l=true):EA old new l=true:=by
 simp[EA,h1,h2,h3,h4,h5,h6]
def BFunc.fins(f:BFunc):Prop:=∀x∈f.blocks,x.fin=1\/x.fin=2\/x.fin=3
theorem Wj{f g:BFunc}{paths:List (List Int)}(hH:UE f g paths)(hf:f.fins):g.fins:=fun x hx=>by
 obtain⟨k,hk⟩:=List.getElem?_of_mem hx;have hkl:k<paths.length:=by rw[hH.len];exact(List.getElem?_eq_some_iff.1 hk).1
 obtain⟨p,hp⟩:=Ag hkl;have hxk:g.blockAt k=x:=by
  have:=Ct (f:=g) (i:=k) (by rw[<-hH.len];omega);rw[Int.toNat_natCast,hk]at this;exact(Option.some.inj this).symm
 have hin:=hH.all p (List.mem_of_getElem? hp);have hle:=hH.leads k p hp;rw[hxk]at hle;have hlast:=hin.2 _ (Mh hin.1);rw[(KC hle).1];exact hf _ (List.mem_of_getElem? (Ct hlast))
theorem Zp{p:OPass}{f:BFunc}(hf:f.words)(hg:p.f.words)(hfin:f.fins)(h:p.holds f=true):FSm f p.f/\p.f.fins:=by
 unfold OPass.holds at h
 cases e:p.kind==4 with
 |true=>
  rw[e]at h;simp only[cond_true,Bool.and_eq_true]at h;have hH:=check_iff.1 h.2;exact⟨aI hH hfin,Wj hH hfin⟩
 |false=>
  rw[e]at h;simp only[cond_false,Bool.and_eq_true]at h;have hC:=ZX hf hg h.2.2;exact⟨WK hC,hC.sn.fin⟩
theorem N1{g:BFunc}:∀(l:List OPass) {f:BFunc},f.words->f.fins->(∀p∈l,p.f.words)->Bd f g l=true->FSm f g
 | [],f,_,_,_,h=>by
  have:f=g:=by simpa[Bd]using h
  subst this;exact FSm.rfl' f
 |p::r,f,hf,hfin,hw,h=>by
  simp only[Bd,Bool.and_eq_true]at h;obtain⟨a1,a2⟩:=Zp hf (hw p Az) hfin h.1;exact a1.trans (N1 r (hw p Az) a2 (fun q hq=>hw q (by simp[hq])) h.2)
theorem Gm:∀{fs gs:List BFunc} {ls:List (List OPass)},B9 fs gs ls=true->∀{i:Nat} {f g:BFunc} {l:List OPass},fs[i]?=some f->gs[i]?=some g->ls[i]?=some l->Bd f g l=true
 |f::fs,g::gs,l::ls,h,0,_,_,_,h1,h2,h3=>by
  simp only[B9,Bool.and_eq_true]at h;simp at h1 h2 h3;subst h1;subst h2;subst h3;exact h.1
 |f::fs,g::gs,l::ls,h,i+1,_,_,_,h1,h2,h3=>by
  simp only[B9,Bool.and_eq_true]at h;exact Gm h.2 Ld Lf (by simpa using h3)
 | [],_,_,_,_,_,_,_,h1,_,_=>by simp at h1
 |_::_,[],_,_,_,_,_,_,_,h2,_=>by simp at h2
 |_::_,_::_,[],_,_,_,_,_,_,_,h3=>by simp at h3
theorem KD:∀{fs gs:List BFunc} {ls:List (List OPass)},(∀(i:Nat) (f g:BFunc) (l:List OPass),fs[i]?=some f->gs[i]?=some g->ls[i]?=some l->Bd f g l=true)->B9 fs gs ls=true
 |f::fs,g::gs,l::ls,h=>by
  simp only[B9,Bool.and_eq_true];exact⟨h 0 f g l rfl rfl rfl,KD fun i a b c h1 h2 h3=>h (i+1) a b c Ld Lf (by simpa using h3)⟩
 | [],_,_,_=>by unfold B9;rfl
 |_::_,[],_,_=>by unfold B9;rfl
 |_::_,_::_,[],_=>by unfold B9;rfl
theorem Sn{b:Blocks}(h:b.right=true):∀f∈b.funcs,f.fins:=fun f hf x hx=>by
 obtain⟨i,hi⟩:=List.getElem?_of_mem hf;exact ZO ((Es ((DW h).2.2.2 i f hi)).2.2.2 x hx).1
def gc(l:List (List OPass)):Prop:=∀ps∈l,∀p∈ps,p.f.words
theorem VC{old new:Blocks}{l:List (List OPass)}(ho:∀f∈old.funcs,f.words)(hl:gc l)(h:EA old new l=true):PS old new:=by
 obtain⟨h1,h2,h3,h4,h5,h6⟩:=QC h;refine⟨h3,h4,fun i f g hf hg=>?_⟩;obtain⟨ps,hps⟩:=Ag (l:=l) (k:=i) (by have:=(List.getElem?_eq_some_iff.1 hf).1;omega);have hfm:=List.mem_of_getElem? hf;exact N1 ps (ho f hfm) (Sn h1 f hfm) (hl ps (List.mem_of_getElem? hps)) (Gm h6 hf hg hps)
def C8(op:Int):Int:=bif use1 op then 1 else bif use2 op then 2 else 0
def Tac.rest2(t:Tac)(f words:Int):Bool:=
  !((t.op !=1&&t.n !=0)||(t.op !=3&&t.k !=0))&&(!(!Dd t.op&&t.size !=0)&&
  (bif t.op==1||(t.op==2||(t.op==8||t.op==9))then t.base==0
   else bif t.op==3 then t.base==0&&(decide (t.k>=4)&&decide (t.k<=15))
   else bif t.op==4||t.op==5 then decide (t.base>=0)&&decide (t.base<words)
   else bif t.op==6||t.op==7 then decide (t.size>=1)&&(decide (t.size<=4096)&&(decide (t.base>=0)&&decide (t.base<=words-t.size)))
   else bif t.op==10 then decide (t.base>=0)&&decide (t.base<f)else false))
def Tac.ins2(t:Tac)(f regs words:Int):Bool:=
  (bif setsOp t.op then AX t.d regs else t.d==0)&&
  ((bif use1 t.op then AX t.a regs&&t.b==0 else bif use2 t.op then AX t.a regs&&AX t.b regs else t.a==0&&t.b==0)&&
   t.rest2 f words)
theorem Ys{op:Int}(h1:1<=op)(h2:op<=10):op=1\/op=2\/op=3\/op=4\/op=5\/op=6\/op=7\/op=8\/op=9\/op=10:=by omega
theorem V4(t:Tac)(f regs words:Int):t.ins2 f regs words=t.fits f regs words:=by
 by_cases h:1<=t.op/\t.op<=10
 . obtain⟨op,d,a,b,k,base,size,n⟩:=t;rw[Bool.eq_iff_iff];rcases Ys h.1 h.2 with e|e|e|e|e|e|e|e|e|e<;>(simp only at e;subst e;simp[Tac.ins2,Tac.fits,Tac.rest2,Tac.rest,Tac.same,Tac.want,Tac.uses,setsOp,use1,use2,FE,Dd,AX])<;>(try omega)<;>(constructor<;>(intro h;simp[h];try omega))
 . rw[Uu h];have h1:(t.op==1)=false:=M4;have h2:(t.op==2)=false:=M4;have h3:(t.op==3)=false:=M4;have h4:(t.op==4)=false:=M4;have h5:(t.op==5)=false:=M4;have h6:(t.op==6)=false:=M4;have h7:(t.op==7)=false:=M4;have h8:(t.op==8)=false:=M4;have h9:(t.op==9)=false:=M4;have h10:(t.op==10)=false:=M4;simp[Tac.ins2,Tac.rest2,h1,h2,h3,h4,h5,h6,h7,h8,h9,h10]
theorem iT{op:Int}(h:C8 op=1):use1 op=true:=by
 unfold C8 at h;exact Tx
theorem iS{op:Int}(h:C8 op=2):use1 op=false/\use2 op=true:=by
 unfold C8 at h;exact Tx
theorem iU{op:Int}(h:C8 op=0):use1 op=false/\use2 op=false:=by
 unfold C8 at h;exact Tx
theorem Vo(op:Int):C8 op=0\/C8 op=1\/C8 op=2:=by
 unfold C8;exact Tx
def K5(l:List Block):Nat:=(l.map fun x=>x.ins.length).sum
theorem Wv(l:List Block):(l.map Block.count).sum=l.length+K5 l:=by
 induction l with
 |nil=>rfl
 |cons x l ih=>simp only[List.map_cons,List.sum_cons,ih,List.length_cons,K5,Block.count];omega
theorem Hk(f:BFunc):f.count=f.blocks.length+K5 f.blocks:=Wv f.blocks
theorem Ts{x y:Block}(h1:x.fin=y.fin)(h2:x.v=y.v)(h3:x.to=y.to)(h4:x.els=y.els)(h5:x.ins=y.ins):x=y:=by
 cases x;cases y;simp_all
theorem Blocks.ext'{x y:Blocks}(h1:x.words=y.words)(h2:x.funcs=y.funcs):x=y:=by
 cases x;cases y;simp_all
def OPass.cells(p:OPass):List AV:=[.int .i64 p.kind,LB p.cert.same,AS p.paths,.int .i64 p.f.regs,Cc p.f.blocks]
def I6(l:List OPass):AV:=.lst false (l.map OPass.cells)
def Mf(ls:List (List OPass)):AV:=.lst false (ls.map fun l=>[I6 l])
structure Blocks.Lim(b:Blocks):Prop where
  n:b.funcs.length<=1048576
  c:b.count<=1048576
structure BFunc.Lim(f:BFunc):Prop where
  n:f.blocks.length<=1048576
  c:∀x∈f.blocks,x.ins.length<=1048576
theorem GC{f:BFunc}(h:f.count<=1048576):f.Lim:=by
 refine⟨by have:=Hk f;omega,fun x hx=>?_⟩;have:x.count<=f.count:=Il hx;simp only[Block.count]at this;omega
theorem Blocks.Lim.f{b:Blocks}(h:b.Lim){f:BFunc}(hf:f∈b.funcs):f.Lim:=GC (Nat.le_trans (Il hf) h.c)
theorem BFunc.Lim.big{f:BFunc}(h:f.Lim):f.blocks.length<=1000000000000000/\∀x∈f.blocks,x.ins.length<=1000000000000000:=
 ⟨Nat.le_trans h.n A7,fun x hx=>Nat.le_trans (h.c x hx) A7⟩
def EB(k:Int):Bool:=decide (1<=k/\k<=4)
theorem QP{fs gs:List BFunc}{ls:List (List OPass)}{i:Nat}{f g:BFunc}{l:List OPass}(hf:fs[i]?=some f)(hg:gs[i]?=some g)(hl:ls[i]?=some l)(h:Bd f g l=false):B9 fs gs ls=false:=by
 rw[Bool.eq_false_iff];intro e;rw[Gm e hf hg hl]at h
 cases h
def Ul(fs gs:List BFunc)(ls:List (List OPass))(k:Nat):Prop:=∀i,i<k->∀f g l,fs[i]?=some f->gs[i]?=some g->ls[i]?=some l->Bd f g l=true
theorem SJ{fs gs:List BFunc}{ls:List (List OPass)}{k:Nat}{f g:BFunc}{l:List OPass}(h:Ul fs gs ls k)(hf:fs[k]?=some f)(hg:gs[k]?=some g)(hl:ls[k]?=some l)(e:Bd f g l=true):Ul fs gs ls (k+1):=fun i hi a b c ha hb hc=>by
 rcases Nat.lt_or_ge i k with h1|h1
 . exact h i h1 a b c ha hb hc
 . obtain rfl:i=k:=by omega
   rw[hf]at ha;rw[hg]at hb;rw[hl]at hc
   cases ha;cases hb;cases hc
   exact e
theorem VM{fs gs:List BFunc}{ls:List (List OPass)}{k:Nat}(h:Ul fs gs ls k)(hk:fs.length<=k):B9 fs gs ls=true:=KD fun i f g l hf hg hl=>h i (by have:=(List.getElem?_eq_some_iff.1 hf).1;omega) f g l hf hg hl
def KO(f:BFunc):List OPass->BFunc
  | []=>f
  |p::r=>KO p.f r
theorem Rp(p:OPass):∀(l:List OPass) (f:BFunc),KO f (l++[p])=p.f
 | [],f=>rfl
 |a::l,f=>Rp p l a.f
theorem MQ{l:List OPass}{k:Nat}{p:OPass}(f:BFunc)(h:l[k]?=some p):KO f (l.take (k+1))=p.f:=by
 rw[List.take_add_one,h];exact Rp p _ f
theorem Gl{g:BFunc}(m:List OPass):∀(l:List OPass) (f:BFunc),Bd f g (l++m)=(Bd f (KO f l) l&&Bd (KO f l) g m)
 | [],f=>by simp[Bd,KO]
 |a::l,f=>by
  show(a.holds f&&Bd a.f g (l++m))=_;rw[Gl m l a.f];show _=((a.holds f&&Bd a.f (KO a.f l) l)&&Bd (KO a.f l) g m);rw[Bool.and_assoc]
theorem VP{f g:BFunc}{l:List OPass}{k:Nat}{p:OPass}(h:l[k]?=some p)(hP:Bd f (KO f (l.take k)) (l.take k)=true):Bd f g l=(p.holds (KO f (l.take k))&&Bd p.f g (l.drop (k+1))):=by
 have e:l=l.take k++(p::l.drop (k+1)):=by
  conv=>lhs;rw[<-List.take_append_drop k l]
  rw[List.drop_eq_getElem_cons (List.getElem?_eq_some_iff.1 h).1,(List.getElem?_eq_some_iff.1 h).2]
 conv=>lhs;rw[e]
 rw[Gl,hP];simp[Bd]
theorem QO{f:BFunc}{l:List OPass}{k:Nat}{p:OPass}(h:l[k]?=some p)(hP:Bd f (KO f (l.take k)) (l.take k)=true)(e:p.holds (KO f (l.take k))=true):Bd f (KO f (l.take (k+1))) (l.take (k+1))=true:=by
 rw[MQ f h,List.take_add_one,h];show Bd f p.f (l.take k++[p])=true;rw[Gl,hP];simp[Bd,e]
theorem SM{f g:BFunc}{l:List OPass}{k:Nat}{p:OPass}(h:l[k]?=some p)(hP:Bd f (KO f (l.take k)) (l.take k)=true)(e:p.holds (KO f (l.take k))=false):Bd f g l=false:=by
 rw[VP h hP,e,Bool.false_and]
theorem SL{f g:BFunc}{l:List OPass}(hP:Bd f (KO f l) l=true):Bd f g l=decide (KO f l=g):=by
 have:=Gl (g:=g) [] l f;rw[List.append_nil,hP]at this;rw[this];simp[Bd]
theorem Mn{p:OPass}{f:BFunc}(h:EB p.kind=false):p.holds f=false:=by
 unfold OPass.holds;have h4:(p.kind==4)=false:=by
  rw[beq_eq_false_iff_ne];intro e;rw[e]at h;simp[EB]at h
 rw[h4,cond_false];rw[show decide (1<=p.kind/\p.kind<=4)=false from h,Bool.false_and]
end Go.Proofs.YtijlphdockhgjaaGreatDoor.Sv
namespace Go.Proofs.YtijlphdockhgjaaGreatDoor
open Go Go.ChangeShapes Go.WideShapes Go.ChangeAt Go.RowKit Sv
section
variable {H : Type} {enc : TypeId × Value -> H} {P : Program} {W : World} {t e : TypeId}
theorem bulk_one(d:DataW H):1<=Rows.uptoBulk d:=by
 cases d with
 |lit l=>cases l<;>simp[Rows.uptoBulk]
 |_=>simp[Rows.uptoBulk]
theorem bulk_part:∀{l:List (DataW H)} {i:Nat} {d:DataW H},l[i]?=some d->Rows.uptoBulk d<=Rows.uptoBulkAll l
 |x::l,0,d,h=>by simp at h;subst h;simp only[Rows.uptoBulkAll];omega
 |x::l,i+1,d,h=>by
  have:=bulk_part (l:=l) (i:=i) PI;simp only[Rows.uptoBulkAll];omega
theorem bulk_sum:∀(l:List (DataW H)),(l.map Rows.uptoBulk).sum=Rows.uptoBulkAll l
 | []=>by simp[Rows.uptoBulkAll]
 |x::l=>by simp only[List.map_cons,List.sum_cons,Rows.uptoBulkAll,bulk_sum l]
def DecR(enc:TypeId×Value->H)(P:Program)(W:World)(t:TypeId){α:Type}(f:α->List AV)(Q:α->Nat->Prop):Prop:=
  ∀(fuel:Nat) (cs:List Value) (x:DataW H×List MemPlace),DataW.trod enc P W 0 (fun _=>true) true fuel t cs=some x->(x.1.weights P t).all (· <=reachBytes)=true->∃a,Reads W cs (f a)/\Q a (Rows.uptoBulk x.1)
theorem DecR.of{α:Type}{f:α->List AV}{Q:α->Prop}(h:Dec enc P W t f Q):DecR enc P W t f (fun a n=>Q a/\1<=n):=fun fuel cs x hx hw=>by
 obtain⟨a,h1,h2⟩:=h fuel cs x hx hw;exact⟨a,h1,h2,bulk_one _⟩
def PartsQ{α:Type}(Q:α->Nat->Prop)(l:List α)(n:Nat):Prop:=∃ns:List Nat,ns.length=l.length/\ns.sum+1<=n/\∀(i:Nat) (a:α) (m:Nat),l[i]?=some a->ns[i]?=some m->Q a m
theorem PartsQ.all{α:Type}{Q:α->Nat->Prop}{l:List α}{n:Nat}(h:PartsQ Q l n):∀a∈l,∃m,Q a m/\m+1<=n:=fun a ha=>by
 obtain⟨ns,h1,h2,h3⟩:=h;obtain⟨i,hi⟩:=List.getElem?_of_mem ha;obtain⟨m,hm⟩:=Ag (l:=ns) (k:=i) (by have:=(List.getElem?_eq_some_iff.1 hi).1;omega);have:m<=ns.sum:=by
  have:=Il (p:=id) (List.mem_of_getElem? hm);simpa using this
 exact⟨m,h3 i a m hi hm,by omega⟩
theorem sum_le_of{α:Type}{μ:α->Nat}:∀{l:List α} {ns:List Nat},ns.length=l.length->(∀(i:Nat) (a:α) (m:Nat),l[i]?=some a->ns[i]?=some m->μ a<=m)->(l.map μ).sum<=ns.sum
 | [],_,_,_=>by simp
 |a::l,[],h,_=>by simp at h
 |a::l,m::ns,h,hq=>by
  have h1:=hq 0 a m rfl rfl;have h2:=sum_le_of (l:=l) (ns:=ns) PI fun i b k hb hk=>hq (i+1) b k (by simpa using hb) (by simpa using hk)
  simp only[List.map_cons,List.sum_cons];omega
theorem PartsQ.sum{α:Type}{Q:α->Nat->Prop}{l:List α}{n:Nat}(h:PartsQ Q l n)(μ:α->Nat)(hμ:∀a m,Q a m->μ a<=m):(l.map μ).sum+1<=n:=by
 obtain⟨ns,h1,h2,h3⟩:=h;have:=sum_le_of (μ:=μ) h1 fun i a m ha hm=>hμ a m (h3 i a m ha hm)
 omega
theorem sum_ones{α:Type}:∀(l:List α),(l.map fun _=>1).sum=l.length
 | []=>rfl
 |a::l=>by simp only[List.map_cons,List.sum_cons,List.length_cons,sum_ones l];omega
theorem PartsQ.len{α:Type}{Q:α->Nat->Prop}{l:List α}{n:Nat}(h:PartsQ Q l n)(h1:∀a m,Q a m->1<=m):l.length+1<=n:=by
 have:=h.sum (fun _=>1) h1;rwa[sum_ones]at this
theorem DecR.slice{α:Type}{f:α->List AV}{Q:α->Nat->Prop}(ht:P.underlying t=some (.slice e))(hc:0<P.cellsOf e)(he:DecR enc P W e f Q):
 DecR enc P W t (fun l:List α=>[.lst false (l.map f)]) (fun l n=>l.length*P.bytesOf e<=reachBytes/\PartsQ Q l n):=fun fuel cs x h hw=>by
 rcases DataW.trod_slice ht h with⟨rfl,rfl⟩|⟨a,len,cap,elems,rest,n,rfl,rfl,rfl,hb,hl,hm,hlen,hel,hsp,hns⟩
 . exact⟨[],.one (.lst0 _ _ _ _ Fu (Nat.zero_le _) (fun _=>rfl) trivial) rfl,by simp,[],rfl,by simpa using bulk_one _,fun i a m h=>by simp at h⟩
 simp only[DataW.weights,ht,List.all_cons,List.all_append,Bool.and_eq_true,decide_eq_true_eq,List.length_map]at hw;obtain⟨w1,w2,w3⟩:=hw;have key:∀i,i<len->∃y,∃cs',W.cells? 0 (a.add (i*P.cellsOf e)) (P.cellsOf e)=some cs'/\Reads W cs' (f y)/\∃d,(elems.map (·.1))[i]?=some d/\Q y (Rows.uptoBulk d):=fun i hi=>by
  have h1:=hel i hi;have hlt:i<elems.length:=by omega
  rw[List.getElem?_eq_getElem hlt]at h1;rw[Option.bind_eq_some_iff]at h1;obtain⟨cs',c1,c2⟩:=h1;have hd:(elems.map (·.1))[i]?=some elems[i].1:=by rw[List.getElem?_map,List.getElem?_eq_getElem hlt];rfl
  obtain⟨y,y1,y2⟩:=he _ _ _ c2 (ET w2 (i:=i) hd);exact⟨y,cs',c1,y1,_,hd,y2⟩
 obtain⟨l,l1,l2⟩:=Hj len key;have hQ:PartsQ Q l (Rows.uptoBulk (.slice (elems.map (·.1)) (rest.map (·.1)))):=by
  refine⟨(elems.map (·.1)).map Rows.uptoBulk,by simp[l1,hlen],?_,fun i y m hy hm=>?_⟩
  . rw[bulk_sum];simp only[Rows.uptoBulk];omega
  . obtain⟨cs',_,_,d,hd,q⟩:=l2 i y hy;rw[List.getElem?_map,hd]at hm
    cases hm
    exact q
 exact lm
variable {T : Nat -> Option Ae}
theorem DecR.slice'{α:Type}{f:α->List AV}{Q:α->Nat->Prop}{i j:Ae}{u:Nat}(hT:Bc P T)(hi:T t=some i)(hk:i.k=.slice u)(hj:T u=some j)(hp:0<j.size)(he:DecR enc P W u f Q):
 DecR enc P W t (fun l:List α=>[.lst false (l.map f)]) (fun l n=>l.length*j.bytes<=reachBytes/\PartsQ Q l n):=by
 obtain⟨info,d,e1,e2,e3,e4,e5,e6⟩:=Af (hT _ _ hi);have hd:=A0 (P:=P) (d:=d) (e3▸hk);subst hd;have:=DecR.slice (enc:=enc) (W:=W) e2 (by rw[E8 hT hj];exact hp) he;rwa[MO hT hj]at this
theorem struct_partsR{i:Ae}{fs:List (Nat×Nat)}(hT:Bc P T)(hi:T t=some i)(hk:i.k=.struct fs){fuel:Nat}{cs:List Value}{x:DataW H×List MemPlace}(h:DataW.trod enc P W 0 (fun _=>true) true fuel t cs=some x)(hw:(x.1.weights P t).all (· <=reachBytes)=true):
 cs.length=i.size/\∀(i off u:Nat),fs[i]?=some (off,u)->∀{α:Type} {f:α->List AV} {Q:α->Nat->Prop},DecR enc P W u f Q->∃a,Reads W ((cs.drop off).take (P.cellsOf u)) (f a)/\∃m,m+1<=Rows.uptoBulk x.1/\Q a m:=by
 obtain⟨info,d,e1,e2,e3,e4,e5,e6⟩:=Af (hT _ _ hi);obtain⟨A,rfl,rfl,_⟩:=Dk (P:=P) (d:=d) (e3▸hk);obtain⟨xs,n,rfl,rfl,hl,hxl,hx⟩:=DataW.trod_struct e2 h;refine⟨by rw[hl,E8 hT hi],fun j off u hj α f Q hd=>?_⟩;rw[List.getElem?_map,Option.map_eq_some_iff]at hj;obtain⟨F,hF,hF2⟩:=hj;simp only[Prod.mk.injEq]at hF2;obtain⟨rfl,rfl⟩:=hF2;have hFa:A[j]?=some F:=by simpa using hF
 have hjlt:j<xs.length:=by rw[hxl];exact(Array.getElem?_eq_some_iff.1 hFa).1
 have h1:=hx j F hFa;rw[List.getElem?_eq_getElem hjlt]at h1;simp only[DataW.weights,e2]at hw;have hd2:(xs.map (·.1))[j]?=some xs[j].1:=by rw[List.getElem?_map,List.getElem?_eq_getElem hjlt];rfl
 obtain⟨a,a1,a2⟩:=hd _ _ _ h1 (Cw hw (i:=j) (by rw[List.getElem?_map,hF];rfl) hd2);refine⟨a,a1,_,?_,a2⟩;have:=bulk_part hd2;simp only[Rows.uptoBulk];omega
theorem arg_oneR{α:Type}{f:α->List AV}{Q:α->Nat->Prop}{v:Value}{d:DataW H}{ps:List MemPlace}(h:DataW.Trod enc P W 0 (fun _=>true) true t v d ps)(hw:(d.weights P t).all (· <=reachBytes)=true)(hd:DecR enc P W t f Q):∃a,Reads W v.cells.toList (f a)/\Q a (Rows.uptoBulk d):=by
 obtain⟨fuel,hf⟩:=h;exact hd _ _ _ hf hw
theorem upto_get{ds gs:List (DataW H)}{i:Nat}{d:DataW H}(h:Rows.uptoSmall H (ds++gs)=true)(hd:ds[i]?=some d):Rows.uptoBulk d<=1048576:=by
 have h1:Rows.uptoBulkAll (ds++gs)<=1048576:=of_decide_eq_true h;have h2:=bulk_part (l:=ds++gs) (i:=i) (d:=d) (by rw[List.getElem?_append_left (List.getElem?_eq_some_iff.1 hd).1];exact hd);omega
end
section
variable {H : Type} {enc : TypeId × Value -> H} {W : World}
theorem decBlockR:DecR enc Tryz.prog W 67 Block.cells (fun x n=>x.Ok/\x.count<=n):=fun fuel cs x h hw=>by
 obtain⟨a,a1,a2⟩:=decBlock fuel cs x h hw;obtain⟨hl,hp⟩:=struct_partsR Am rfl rfl h hw;obtain⟨x0,a0,m0,b0,c0,d0⟩:=hp 0 _ _ rfl (DecR.slice' Am rfl rfl rfl (Nat.zero_lt_succ _) (DecR.of decTac));obtain⟨x1,a1',_,_,b1,_⟩:=hp 1 _ _ rfl (DecR.of (Br Am rfl rfl));obtain⟨x2,a2',_,_,b2,_⟩:=hp 2 _ _ rfl (DecR.of (Br Am rfl rfl));obtain⟨x3,a3,_,_,b3,_⟩:=hp 3 _ _ rfl (DecR.of (Br Am rfl rfl));obtain⟨x4,a4,_,_,b4,_⟩:=hp 4 _ _ rfl (DecR.of (Br Am rfl rfl));have k0:=Dy Am rfl rfl (Reads.nil W cs) a0 (Nat.zero_le _);have k1:=Dy Am rfl rfl k0 a1' UL;have k2:=Dy Am rfl rfl k1 a2' UL;have k3:=Dy Am rfl rfl k2 a3 UL;have k4:=Dy Am rfl rfl k3 a4 UL;refine⟨⟨x0,x1,x2,x3,x4⟩,k4.all hl,⟨c0,fun t ht=>?_,Cu b1,Cu b2,Cu b3,Cu b4⟩,?_⟩
 . obtain⟨m,hm,_⟩:=d0.all t ht;exact hm.1
 . have:=d0.len (fun a m h=>h.2);simp only[Block.count];omega
theorem decBFuncR:DecR enc Tryz.prog W 38 BFunc.cells (fun f n=>f.Ok/\f.count+1<=n):=fun fuel cs x h hw=>by
 obtain⟨hl,hp⟩:=struct_partsR Am rfl rfl h hw;obtain⟨x0,a0,_,_,b0,_⟩:=hp 0 _ _ rfl (DecR.of (Br Am rfl rfl));obtain⟨x1,a1,m1,b1,c1,d1⟩:=hp 1 _ _ rfl (DecR.slice' Am rfl rfl rfl (Nat.zero_lt_succ _) decBlockR);have k0:=Dy Am rfl rfl (Reads.nil W cs) a0 (Nat.zero_le _);have k1:=Dy Am rfl rfl k0 a1 UL;refine⟨⟨x0,x1⟩,k1.all hl,⟨Cu b0,c1,fun y hy=>?_⟩,?_⟩
 . obtain⟨m,hm,_⟩:=d1.all y hy;exact hm.1
 . have:=d1.sum Block.count (fun a m h=>h.2);show(x1.map Block.count).sum+1<=_;omega
theorem sum_add1{α:Type}{p:α->Nat}:∀(l:List α),(l.map fun a=>p a+1).sum=(l.map p).sum+l.length
 | []=>rfl
 |a::l=>by simp only[List.map_cons,List.sum_cons,List.length_cons,sum_add1 l];omega
theorem decBlocksR:DecR enc Tryz.prog W 24 Blocks.cells (fun b n=>b.Ok/\b.count+b.funcs.length<=n):=fun fuel cs x h hw=>by
 obtain⟨hl,hp⟩:=struct_partsR Am rfl rfl h hw;obtain⟨x0,a0,_,_,b0,_⟩:=hp 0 _ _ rfl (DecR.of (Br Am rfl rfl));obtain⟨x1,a1,m1,b1,c1,d1⟩:=hp 1 _ _ rfl (DecR.slice' Am rfl rfl rfl (Nat.zero_lt_succ _) decBFuncR);have k0:=Dy Am rfl rfl (Reads.nil W cs) a0 (Nat.zero_le _);have k1:=Dy Am rfl rfl k0 a1 UL;refine⟨⟨x0,x1⟩,k1.all hl,⟨Cu b0,c1,fun y hy=>?_⟩,?_⟩
 . obtain⟨m,hm,_⟩:=d1.all y hy;exact hm.1
 . have:=d1.sum (fun f=>f.count+1) (fun a m h=>h.2);rw[sum_add1]at this;show(x1.map BFunc.count).sum+x1.length<=_;omega
theorem lim_row{b:Blocks}{n:Nat}(h:b.Ok/\b.count+b.funcs.length<=n)(hn:n<=1048576):b.Lim:=⟨by omega,by omega⟩
end
end Go.Proofs.YtijlphdockhgjaaGreatDoor
namespace Go.Proofs.YtijlphdockhgjaaGreatDoor
open Go.ChangeShapes Go.WideShapes Go.ChangeAt Go.RowKit Sv
theorem okWide_cellS{P:Program}{W:World}{T:Nat->Option Ae}{t b0:Nat}{v:Value}{i:Ae}(hT:Bc P T)(hi:T t=some i)(hk:i.k=.string)(h:Value.okWide P W .any b0 t v):∀cs,v≠ .agg cs:=by
 obtain⟨info,d,e1,e2,e3,e4,e5,e6⟩:=Af (hT _ _ hi);have hd:=CZ (P:=P) (d:=d) (e3▸hk);subst hd;obtain⟨s,rfl⟩:=okWide_string e2 h;intro cs h
 cases h
section
variable {H : Type} {enc : TypeId × Value -> H} {W : World}
theorem decStr:Dec enc Tryz.prog W 9 (fun s:ByteArray=>[.str s]) (fun s=>s.size<=maxLen/\s.size<=reachBytes):=Rx Am rfl rfl
end
end Go.Proofs.YtijlphdockhgjaaGreatDoor
namespace Go.Proofs.YtijlphdockhgjaaGreatDoor.Sv
open Go
def AV.sure:AV->Option Value
  | .bool b=>some (.bool b)
  | .int k n=>some (.int k n)
  | .str s=>some (.string s)
  | .fn f [] []=>some (.func f #[] #[])
  | .val v=>some v
  |_=>none
def P7:List AV->Option (List Value)
  | []=>some []
  |x::xs=>match x.sure,P7 xs with
    |some v,some vs=>some (v::vs)
    |_,_=>none
def AV.whole:AV->Option Value
  | .agg cs=>(P7 cs).map fun l=>.agg l.toArray
  |x=>x.sure
theorem P6{H:Aq}{ι:AL}{x:AV}{v u:Value}(h:Rel H ι x v)(e:x.sure=some u):v=u:=by
 cases h with
 |bool=>simpa[AV.sure]using e
 |int=>simpa[AV.sure]using e
 |str=>simpa[AV.sure]using e
 |val=>simpa[AV.sure]using e
 |fn _ f xs cs us vs hx hl h1 h2=>
  cases xs with
  |cons=>simp[AV.sure]at e
  |nil=>
   cases cs with
   |cons=>simp[AV.sure]at e
   |nil=>
    have e1:us= #[]:=Array.eq_empty_of_size_eq_zero (by simpa using hx.symm);have e2:vs= #[]:=Array.eq_empty_of_size_eq_zero (by simpa using hl.symm);subst e1;subst e2;simpa[AV.sure]using e
 |_=>simp[AV.sure]at e
theorem NF:∀{xs:List AV} {l:List Value},P7 xs=some l->xs.length=l.length/\∀(j:Nat) (x:AV),xs[j]?=some x->∃u,l[j]?=some u/\x.sure=some u
 | [],l,h=>by simp[P7]at h;subst h;exact⟨rfl,fun j x h=>by simp at h⟩
 |x::xs,l,h=>by
  unfold P7 at h;split at h
  . rename_i v vs h1 h2;simp at h;subst h;obtain⟨a1,a2⟩:=NF h2;refine⟨by simp[a1],fun j y hj=>?_⟩
    cases j with
    |zero=>simp at hj;subst hj;exact⟨v,rfl,h1⟩
    |succ j=>obtain⟨u,u1,u2⟩:=a2 j y (by simpa using hj);exact⟨u,by simpa using u1,u2⟩
  . cases h
theorem UY{H:Aq}{ι:AL}{x:AV}{v u:Value}(h:Rel H ι x v)(e:x.whole=some u):v=u:=by
 cases x with
 |agg cs=>
  obtain⟨us,rfl,hl,hr⟩:=h.agg_inv;simp only[AV.whole,Option.map_eq_some_iff]at e;obtain⟨l,h1,rfl⟩:=e;obtain⟨a1,a2⟩:=NF h1;congr 1;apply Array.ext FI;intro i h1 h2;obtain⟨x,hx⟩:∃x,cs[i]?=some x:=⟨cs[i]'(Ab),by simp[hl,h1]⟩
  obtain⟨w,w1,w2⟩:=a2 i x hx;have:=P6 (hr i x us[i] hx (by simp[h1])) w2;rw[this];rw[List.getElem?_eq_some_iff]at w1;obtain⟨_,w1⟩:=w1;simp[w1]
 |_=>exact P6 h e
section
variable {P : Program} {T : Nat -> Option Ae} {o : Oper} {e : Ar} {h : Aa}
theorem Xz{d:TypeDesc}(h:Ff P d≠ .other):∀m,d≠ .interface m:=fun m e=>by subst e;exact h rfl
theorem I0(hT:Bc P T){t:TypeId}{x:Operand}{y:AV}{u:Value}{i:Ae}(ho:o.op=.makeInterface t x)(hx:look e x=some y)(hy:y.whole=some u)(ht:T t=some i)(hk:i.k≠ .other):QLoc P o e h [] (.val (.iface t u)):=by
 intro H ι a w s hs g1 g2;have hx':look s.env x=some y:=by rw[g1 x Bg,hx]
 have hv:=UY (Ai hs hx') hy;obtain⟨info,d,e1,e2,e3,e4,e5,e6⟩:=Af (hT _ _ ht);have hd:=Xz (P:=P) (d:=d) (e3▸hk);refine⟨.iface t u,.val _ _ rfl,?_⟩;simp only[execOp,ho,hv,Instr.makeInterface,Sem.run_bind,Aj e2,Result.andThen_ok]
 cases d with
 |interface m=>exact absurd rfl (hd m)
 |_=>rfl
theorem Jb{f:FuncId}{fn:Func}{recv:Operand}{name:String}{args:Array Operand}{tys:Array TypeId}{t:TypeId}{v:Value}{x0:AV}{xs:List AV}{r:AV}(ho:o.op=.call {callee:=.invoke recv name,args:=args,argTypes:=tys})
 (hr:look e recv=some (.val (.iface t v))) (hm:∀w,(method (P.types.size+Made.depth) t v name).run P w=.ok (f,v) w) (hv:∀H,Rel H AE x0 v)
 (hf:P.funcs[f]?=some fn) (hn:(fn.name== "runtime.NumGoroutine")=false) (hb:fn.body.isSome=true)
 (hx:AQ e args.toList=some xs) (hp:xs.all AV.isPure=true) (hc:APure P f (x0::xs) (fun r'=>r'=r)):OLoc P o e h [] [] (some r):=by
 intro H ι a w s Q hs g1 g2;have hx':AQ s.env args.toList=some xs:=by
  exact WU
 have hr':look s.env recv=some (.val (.iface t v)):=by rw[g1 recv Fv,hr]
 have hre:=((Ai hs hr').val_inv).1;have hra:=BY hs hx';have hra':RelAll H AE (x0::xs) (#[v]++args.map a.eval):=by
  have h1:RelAll H AE [x0] #[v]:=⟨rfl,fun j x u h1 h2=>by
   cases j with
   |zero=>simp at h1 h2;subst h1;subst h2;exact hv H
   |succ j=>simp at h1⟩
  exact BW h1 ⟨hra.1,fun j x u h1 h2=>DE (List.all_eq_true.1 hp x (List.mem_of_getElem? h1)) (hra.2 j x u h1 h2)⟩
 have hcall:=hc H w _ hra' (J2 hs.heap);have hexec:(execOp a.eval o).run P w=.ok (.enter f (#[v]++args.map a.eval)) w:=by
  have h0:(#[Value.iface t v]++args.map a.eval)[0]?=some (.iface t v):=by
   rw[Array.getElem?_append_left Az];rfl
  have hex:(#[Value.iface t v]++args.map a.eval).extract 1 (#[Value.iface t v]++args.map a.eval).size=args.map a.eval:=by
   apply Array.ext';exact fE
  simp only[execOp,ho,resolve,hre,invoke,Sem.run_bind,Sem.run_pure,Result.andThen_ok,h0,hex,callMethod,run_program,hm w,Bv hf hn hb]
 unfold Oper.wp;rw[hexec];refine hcall.mono fun en w' hh=>?_
 obtain⟨v',r',H',rfl,rfl,k1,k2⟩:=hh;obtain⟨u1,u2⟩:=hs.heap.grown k2;exact⟨v',H',ι,rfl,(fun x ex=>by cases ex;exact k1.mono (KLe.refl _) (LLe.none _)),u1,u2⟩
end
end Go.Proofs.YtijlphdockhgjaaGreatDoor.Sv
