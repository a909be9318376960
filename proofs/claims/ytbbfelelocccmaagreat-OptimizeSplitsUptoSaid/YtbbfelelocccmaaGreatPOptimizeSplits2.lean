/-
  THE JUDGEMENT ON ONE OPERATION, AND ITS RULES FOR THOSE THAT ONLY READ: own work, over no program.
-/
import Derived.Test.YtbbfelelocccmaaGreatPOptimizeSplits1
import Derived.Deep.AppendSrc
import Derived.Tactics
set_option linter.unusedVariables false
set_option linter.unusedSimpArgs false
set_option maxRecDepth 100000
set_option maxHeartbeats 2000000
namespace Go.Proofs.YtbbfelelocccmaaGreat.Sv
open Go
def hputs(h:Ab):List (Nat×AObj)->Ab
  | []=>h
  |(b,o)::W=>hputs (hput h b o) W
def OLoc(P:Program)(o:Oper)(e:As)(h:Ab)(R:List Nat)(W:List (Nat×AObj))(r:Option AV):Prop:=
  ∀(H:Ax) (ι:Ba) (a:Act) (w:World) (s:Ai) (Q:Exit->Act->World->Prop),Sim H ι s a w->
    (∀x∈o.op.operands,Ak s.env x=Ak e x)->(∀b∈R,s.h b=h b)->
    o.wp P a w (fun a' w'=>∃v H' ι',a'=a.put o.dst v/\(∀x,r=some x->Rel H' ι' x v)/\HeapRel H' ι' (hputs s.h W) w'/\Step H ι s.h w H' ι' (hputs s.h W) w') Q
def QLoc(P:Program)(o:Oper)(e:As)(h:Ab)(R:List Nat)(r:AV):Prop:=
  ∀(H:Ax) (ι:Ba) (a:Act) (w:World) (s:Ai),Sim H ι s a w->
    (∀x∈o.op.operands,Ak s.env x=Ak e x)->(∀b∈R,s.h b=h b)->
    ∃v,Rel H ι r v/\(execOp a.eval o).run P w= .ok (.value v) w
theorem QLoc.loc{P:Program}{o:Oper}{e:As}{h:Ab}{R:List Nat}{r:AV}(q:QLoc P o e h R r):OLoc P o e h R [] (some r):=by
 intro H ι a w s Q hs h1 h2;obtain⟨v,hr,hx⟩:=q H ι a w s hs h1 h2;unfold Oper.wp;rw[hx];exact⟨v,H,ι,rfl,fun x e=>by cases e;exact hr,hs.heap,Step.refl _ _ _ _⟩
inductive PtsTo(h:Ab):AV->List Nat->List AV->Prop
  | loc (cs:List AV):PtsTo h (.loc cs) [] cs
  | ptr (b n i o:Nat) (p:Bool) (sz:Nat) (es:List (List AV)) (cs:List AV) (hb:h b=some (.row p sz es)) (hn:n=es.length) (hi:es[i]?=some cs):PtsTo h (.ptr b n i o) [b] (cs.drop o)
def Ww(H:Ax)(ι:Ba)(w:World)(a:Addr)(cs:List AV):Prop:=∀(j:Nat) (x:AV),cs[j]?=some x->∃v,w.cell? (a.add j)=some v/\Rel H ι x v/\x.cell1=true
theorem ER(b off n:Nat):(⟨b,off,none⟩:Addr).add n=⟨b,off+n,none⟩:=by
 unfold Addr.add;split<;>simp_all
theorem Ko{w:World}{b j:Nat}{c:Array Value}{T:TypeId}{fr:Nat×Nat}(h:w.heap[b]?=some (.cells c T fr)):w.cell? ⟨b,j,none⟩=c[j]?:=by
 simp[World.cell?,h]
theorem RowAt.cell{w:World}{b j:Nat}{c:Array Value}{T:TypeId}(h:RowAt w b c T):w.cell? ⟨b,j,none⟩=c[j]?:=by
 obtain⟨fr,e,_⟩:=h;exact Ko e
theorem RowAt.setRow{w:World}{b:Nat}{c c':Array Value}{T:TypeId}(h:RowAt w b c T)(hs:c'.size=c.size):RowAt (w.setRow b c') b c' T:=by
 obtain⟨fr,e,h2⟩:=h;exact⟨fr,setRow_heap w b c c' T fr e,by rw[hs];exact h2⟩
theorem RowAt.self{w:World}{b:Nat}{c:Array Value}{T:TypeId}(h:RowAt w b c T):w.setRow b c=w:=by
 obtain⟨fr,e,_⟩:=h;exact setRow_self w b c T fr e
theorem RowAt.open{w:World}{b j:Nat}{c:Array Value}{T:TypeId}(h:RowAt w b c T)(hj:j<c.size):w.frozen? ⟨b,j,none⟩=false:=by
 obtain⟨fr,e,h2⟩:=h;obtain⟨lo,hi⟩:=fr;simp only[World.frozen?,e];simp only at h2
 cases e1:decide (lo<=j)with
 | false=>rfl
 | true=>
  have h1:lo<=j:=by simpa using e1
  have:decide (j<hi)=false:=by rw[decide_eq_false_iff_not];omega
  rw[this];rfl
theorem FL(P:Program)(g o:Nat)(t:TypeId): ∀(vs:List Value) (i:Nat) (cur:Array Value) (w:World),RowAt w g cur t->o+i+vs.length<=cur.size->(∀v∈vs,v.oneCell'=true)->
 (storeCells ⟨g,o,none⟩ vs i).run P w= .ok () (w.setRow g (cur.toList.take (o+i)++vs++cur.toList.drop (o+i+vs.length)).toArray)
 | [],i,cur,w,hg,_,_=>by
  obtain⟨fr,e,_⟩:=hg;simp only[storeCells,List.append_nil,List.length_nil,Nat.add_zero,List.take_append_drop,Array.toArray_toList];rw[setRow_self w g cur t fr e];rfl
 | v::rest,i,cur,w,hg,hl,h1=>by
  simp only[List.length_cons]at hl;have hin:o+i<cur.size:=by omega
  have hat:(⟨g,o,none⟩:Addr).add i=⟨g,o+i,none⟩:=by unfold Addr.add;split<;>simp_all
  have hcell:w.cell? ⟨g,o+i,none⟩=some cur[o+i]:=by rw[hg.cell];exact Array.getElem?_eq_getElem hin
  have hopen:=hg.open hin;have hset:w.setCell ⟨g,o+i,none⟩ v=w.setRow g (cur.setIfInBounds (o+i) v):=by
   obtain⟨fr,e,_⟩:=hg;exact setCell_eq_setRow w g (o+i) cur t fr v e
  have hone:(store ((⟨g,o,none⟩:Addr).add i) v).run P w= .ok () (w.setRow g (cur.setIfInBounds (o+i) v)):=by
   rw[hat,run_store P w _ v _ (h1 v (by simp)),hcell];simp[hopen,hset]
  have hrest:=FL P g o t rest (i+1) (cur.setIfInBounds (o+i) v) (w.setRow g (cur.setIfInBounds (o+i) v)) (hg.setRow (by simp)) (by simp;omega) (fun x hx=>h1 x (by simp[hx]));simp only[storeCells,Sem.run_bind,hone,Result.andThen_ok,hrest,setRow_setRow];congr 3;have hseg:=list_seg_step cur.toList (o+i) v rest (by simp;omega);simpa[Array.toList_setIfInBounds,Nat.add_assoc]using hseg
theorem PtsTo.cells{H:Ax}{ι:Ba}{h:Ab}{w:World}(hr:HeapRel H ι h w){x:AV}{R:List Nat}{cs:List AV}(hp:PtsTo h x R cs){v:Value}(hv:Rel H ι x v):
 ∃b off,v= .pointer (some ⟨b,off,none⟩)/\Ww H ι w ⟨b,off,none⟩ cs:=by
 cases hp with
 | loc cs=>
  cases hv with
  | loc _ _ b off c vals hb hv hr' hc1=>
   obtain⟨T,fr,hw⟩:=hr.know b c hb;refine⟨b,off,rfl,fun j x hj=>⟨vals j,?_,(hr' j x hj).mono (KLe.refl _) (LLe.none _),hc1 j x hj⟩⟩;rw[ER,Ko hw];exact hv j x hj
 | ptr b n i o p sz es cs hb hn hi=>
  obtain⟨r,hl,ho,_⟩:=hr.obj b _ hb rfl;obtain⟨h1,h2,h3,h4,hu,hx⟩:=ho;have hsol:r.solid:=by
   intro h0;have:0<es.length:=by
    rcases Nat.eq_zero_or_pos es.length with h | h
    . rw[List.getElem?_eq_none (by omega)]at hi;cases hi
    . exact h
   have:=Nat.mul_pos this h2;omega
  obtain⟨c,T,h5,h6,h7,h8⟩:=hx hsol
  cases hv with
  | ptrL _ _ _ _ _ r' hr' hn'=>
   rw[hl]at hr';cases hr';refine⟨r.rb,i*r.sz+o,rfl,fun j x hj=>?_⟩;rw[List.getElem?_drop]at hj;obtain⟨v,e1,e2,e3⟩:=h8 i cs (o+j) x hi hj;refine⟨v,?_,?_,e3⟩
   . rw[ER,h5.cell,h1,Nat.add_assoc];exact e1
   . cases p with
     | true=>exact e2.mono (KLe.refl _) (LLe.none _)
     | false=>exact e2
  | ptrS _ _ _ _ _ r' a hr' hn'=>
   rw[hl]at hr';cases hr';omega
def TK.isAgg:TK->Bool
  | .struct _ | .array _ _=>true
  | _=>false
def TK.isCell:TK->Bool
  | .bool | .int _ | .string | .slice _ | .ptr _ | .map _ _ | .fn=>true
  | _=>false
theorem gQ{P:Program}{d:TypeDesc}(h:(Gw P d).isAgg=true):(∃fs,d= .struct fs)\/∃n e,d= .array n e:=by
 cases d<;>simp[Gw,TK.isAgg]at h |-
theorem Vp{P:Program}{d:TypeDesc}(h:(Gw P d).isCell=true):(∀fs,d≠ .struct fs)/\∀n e,d≠ .array n e:=by
 cases d<;>simp[Gw,TK.isCell]at h |-
 rename_i fs
 revert h
 cases (fs.all fun f=>P.cellsOf f.type !=0)<;>simp[TK.isCell]
 all_goals(first |(intro h;cases h) | skip)
def H4(i:Ar)(cs:List AV):Option AV:=
  bif i.k.isAgg then(bif Nat.ble i.size cs.length then some (.agg (cs.take i.size))else none)
  else bif i.k.isCell then cs.head? else none
def NH:TypeDesc->Bool
  | .struct _ | .array _ _=>true
  | _=>false
theorem Iy{P:Program}{w:World}{t:TypeId}{d:TypeDesc}(h:P.underlying t=some d):(isAgg t).run P w= .ok (NH d) w:=by
 simp only[isAgg,underlying,Sem.run_bind,run_program,Result.andThen_ok,h,Sem.run_pure]
 cases d<;>rfl
theorem Lt{P:Program}{w:World}{H:Ax}{ι:Ba}{t:TypeId}{i:Ar}{a:Addr}{cs:List AV}{r:AV}(hT:WV P t=some i)(hc:Ww H ι w a cs)(hl:H4 i cs=some r):
 ∃v,Rel H ι r v/\(loadVar t a).run P w= .ok v w:=by
 obtain⟨info,d,h1,h2,h3,h4,h5,h6⟩:=Aj hT;unfold H4 at hl
 cases e:i.k.isAgg with
 | true=>
  rw[e]at hl;simp only[cond_true]at hl
  cases e2:Nat.ble i.size cs.length with
  | false=>rw[e2]at hl;cases hl
  | true=>
   rw[e2]at hl;simp only[cond_true,Option.some.injEq]at hl;subst hl;have hle:=Nat.le_of_ble_eq_true e2;have hagg:NH d=true:=by
    rcases gQ (P:=P) (d:=d) (by rw[<-h3];exact e)with⟨fs,rfl⟩ |⟨n,e,rfl⟩<;>rfl
   have hf: ∀j,j<i.size->∃v,w.cell? (a.add j)=some v/\∀x,cs[j]?=some x->Rel H ι x v:=fun j hj=>by
    obtain⟨v,e1,e2,_⟩:=hc j cs[j] (by rw[List.getElem?_eq_getElem (Nat.lt_of_lt_of_le hj hle)]);exact⟨v,e1,fun x hx=>by rw[List.getElem?_eq_getElem (Nat.lt_of_lt_of_le hj hle)]at hx;cases hx;exact e2⟩
   have hrun:=run_loadCells (P:=P) w a i.size (fun j=>(w.cell? (a.add j)).getD undef) (fun j hj=>by
    obtain⟨v,e1,_⟩:=hf j hj;rw[e1];rfl)
   refine⟨.agg ((List.range i.size).map fun j=>(w.cell? (a.add j)).getD undef).toArray,?_,?_⟩
   rotate_left
   . simp only[loadVar,Sem.run_bind,Iy h2,Result.andThen_ok,hagg,if_true,sizeOf,typeInfo,run_program,h1,Sem.run_pure,h4,hrun]
   . refine .agg _ _ _ (by simp;exact Nat.min_eq_left hle) (fun j x v e1 e2=>?_);have hj:j<i.size:=by
      rcases Nat.lt_or_ge j i.size with h | h
      . exact h
      . rw[List.getElem?_eq_none (by simp;omega)]at e1;cases e1
     rw[List.getElem?_take_of_lt hj]at e1;obtain⟨u,e3,e4⟩:=hf j hj;have:v=u:=by
      simp[hj]at e2;rw[e3]at e2;simpa using e2.symm
     rw[this];exact e4 x e1
 | false=>
  rw[e]at hl;simp only[cond_false]at hl
  cases e2:i.k.isCell with
  | false=>rw[e2]at hl;cases hl
  | true=>
   rw[e2]at hl;simp only[cond_true]at hl;have hx:cs[0]?=some r:=by rw[<-List.head?_eq_getElem?];exact hl
   obtain⟨v,e3,e4,_⟩:=hc 0 r hx;have hagg:NH d=false:=by
    have:=Vp (P:=P) (d:=d) (by rw[<-h3];exact e2)
    cases d<;>first | rfl | exact absurd rfl (this.1 _) | exact absurd rfl (this.2 _ _)
   refine⟨v,e4,?_⟩;have ha:a.add 0=a:=by simp[Addr.add]
   rw[ha]at e3;simp only[loadVar,Sem.run_bind,Iy h2,Result.andThen_ok,hagg,Bool.false_eq_true,if_false,run_load,e3]
section
variable {P : Program} {T : Nat -> Option Ar} {o : Oper} {e : As} {h : Ab}
theorem AA(hT:Cn P T){t:TypeId}{x:Operand}{p r:AV}{i:Ar}{R:List Nat}{cs:List AV}(ho:o.op= .load t x)(hx:Ak e x=some p)(hi:T t=some i)(hp:PtsTo h p R cs)(hl:H4 i cs=some r):QLoc P o e h R r:=by
 intro H ι a w s hs h1 h2;have hx':Ak s.env x=some p:=by rw[h1 x (by rw[ho];simp[Op.operands]),hx]
 have hp':PtsTo s.h p R cs:=by
  cases hp with
  | loc=>exact .loc _
  | ptr b n i o p sz es cs hb hn hi=>exact .ptr b n i o p sz es cs (by rw[h2 b (by simp)];exact hb) hn hi
 obtain⟨b,off,hv,hc⟩:=hp'.cells hs.heap (Am hs hx');obtain⟨v,hr,hrun⟩:=Lt (P:=P) (hT _ _ hi) hc hl;refine⟨v,hr,?_⟩;simp only[execOp,ho,Instr.loadAt,hv,Instr.sureAddr,Sem.run_bind,Sem.run_pure,Result.andThen_ok,hrun]
theorem KP{x:Operand}{p:AV}(ho:o.op= .move x\/o.op= .assign x)(hx:Ak e x=some p):QLoc P o e h [] p:=by
 intro H ι a w s hs h1 h2;have hx':Ak s.env x=some p:=by rw[h1 x (by rcases ho with ho | ho<;>rw[ho]<;>simp[Op.operands]),hx]
 refine⟨a.eval x,Am hs hx',?_⟩;rcases ho with ho | ho<;>simp[execOp,ho]
theorem Bx{op:BinOp}{t t':TypeId}{x y:Operand}{p q r:AV}(ho:o.op= .binOp op t x y t')(hx:Ak e x=some p)(hy:Ak e y=some q)(hr:AX op p q=some r):QLoc P o e h [] r:=by
 intro H ι a w s hs h1 h2;have hx':Ak s.env x=some p:=by rw[h1 x (by rw[ho];simp[Op.operands]),hx]
 have hy':Ak s.env y=some q:=by rw[h1 y (by rw[ho];simp[Op.operands]),hy]
 obtain⟨z,hz,hrun⟩:=Sd (P:=P) (w:=w) (op:=op) (T:=t) (xo:=x) (yo:=y) (Am hs hx') (Am hs hy') hr;exact⟨z,hz,by simp only[execOp,ho,Sem.run_bind]at hrun |-;rw[hrun];rfl⟩
end
end Go.Proofs.YtbbfelelocccmaaGreat.Sv
namespace Go.Proofs.YtbbfelelocccmaaGreat.Sv
open Go
theorem EC{P:Program}{d:TypeDesc}{fs:List (Nat×Nat)}(h:Gw P d= .struct fs): ∃a,d= .struct a/\fs=a.toList.map (fun f=>(f.offset,f.type))/\∀f∈a,P.cellsOf f.type≠0:=by
 cases d<;>simp[Gw]at h
 rename_i a
 cases e:(a.all fun f=>P.cellsOf f.type !=0)with
 | false=>rw[e]at h;simp at h
 | true=>
  rw[e]at h;simp only[cond_true,TK.struct.injEq]at h;refine⟨a,rfl,h.symm,fun f hf=>?_⟩;have:=Array.all_eq_true_iff_forall_mem.1 e f hf;simpa using this
theorem Bn{P:Program}{d:TypeDesc}{e:Nat}(h:Gw P d= .slice e):d= .slice e:=by
 cases d<;>simp[Gw]at h
 . rw[h]
 . rename_i a;revert h;cases (a.all fun f=>P.cellsOf f.type !=0)<;>simp
theorem HK{P:Program}{d:TypeDesc}{n e:Nat}(h:Gw P d= .array n e):d= .array n e:=by
 cases d<;>simp[Gw]at h
 . rw[h.1,h.2]
 . rename_i a;revert h;cases (a.all fun f=>P.cellsOf f.type !=0)<;>simp
theorem KC{P:Program}{d:TypeDesc}(h:Gw P d= .string):d= .string:=by
 cases d<;>simp[Gw]at h
 . rfl
 . rename_i a;revert h;cases (a.all fun f=>P.cellsOf f.type !=0)<;>simp
theorem Gv{P:Program}{d:TypeDesc}{k:IntKind}(h:Gw P d= .int k):d= .int k:=by
 cases d<;>simp[Gw]at h
 . rw[h]
 . rename_i a;revert h;cases (a.all fun f=>P.cellsOf f.type !=0)<;>simp
theorem Vq{P:Program}{d:TypeDesc}(h:Gw P d= .bool):d= .bool:=by
 cases d<;>simp[Gw]at h
 . rfl
 . rename_i a;revert h;cases (a.all fun f=>P.cellsOf f.type !=0)<;>simp
theorem G5{P:Program}{d:TypeDesc}{k e:Nat}(h:Gw P d= .map k e):d= .map k e:=by
 cases d<;>simp[Gw]at h
 . rw[h.1,h.2]
 . rename_i a;revert h;cases (a.all fun f=>P.cellsOf f.type !=0)<;>simp
def H3:AV->Nat->Option AV
  | .loc cs,n=>some (.loc (cs.drop n))
  | .ptr b m i o,n=>some (.ptr b m i (o+n))
  | _,_=>none
theorem Nt{H:Ax}{ι:Ba}{x r:AV}{n:Nat}{v:Value}(h:H3 x n=some r)(hv:Rel H ι x v): ∃a,v= .pointer (some a)/\Rel H ι r (.pointer (some (a.add n))):=by
 cases x<;>simp[H3]at h
 . subst h;obtain⟨b,off,c,vals,rfl,hb,hv,hr,h1⟩:=hv.loc_inv;refine⟨⟨b,off,none⟩,rfl,?_⟩;rw[ER];exact .loc _ _ b (off+n) c (fun j=>vals (n+j)) hb (fun j x hj=>by rw[List.getElem?_drop]at hj;have:=hv _ _ hj;rwa[<-Nat.add_assoc]at this)
    (fun j x hj=>by rw[List.getElem?_drop]at hj;exact hr _ _ hj) (fun j x hj=>by rw[List.getElem?_drop]at hj;exact h1 _ _ hj)
 . subst h
   cases hv with
   | ptrL _ _ _ _ _ r hr hn=>exact⟨_,rfl,by rw[ER,Nat.add_assoc];exact .ptrL _ _ _ _ _ r hr hn⟩
   | ptrS _ _ _ _ _ r a hr hn=>exact⟨_,rfl,.ptrS _ _ _ _ _ r _ hr hn⟩
section
variable {P : Program} {T : Nat -> Option Ar} {o : Oper} {e : As} {h : Ab}
theorem Al{w:World}{t:TypeId}{d:TypeDesc}(h:P.underlying t=some d):(underlying t).run P w= .ok d w:=by
 simp[underlying,h]
theorem HV(hT:Cn P T){t:TypeId}{x:Operand}{f:Nat}{p r:AV}{i:Ar}{fs:List (Nat×Nat)}{off u:Nat}(ho:o.op= .fieldAddr t x f)(hx:Ak e x=some p)(hi:T t=some i)(hk:i.k= .struct fs)
 (hf:fs[f]?=some (off,u)) (hm:H3 p off=some r):QLoc P o e h [] r:=by
 intro H ι a w s hs h1 h2;have hx':Ak s.env x=some p:=by rw[h1 x (by rw[ho];simp[Op.operands]),hx]
 obtain⟨info,d,e1,e2,e3,e4,e5,e6⟩:=Aj (hT _ _ hi);obtain⟨A,rfl,rfl,hz⟩:=EC (P:=P) (d:=d) (e3▸hk);rw[List.getElem?_map,Array.getElem?_toList]at hf
 cases ef:A[f]? with
 | none=>rw[ef]at hf;cases hf
 | some g=>
  rw[ef]at hf;simp only[Option.map_some,Option.some.injEq,Prod.mk.injEq]at hf;obtain⟨rfl,rfl⟩:=hf;obtain⟨ad,hv,hr⟩:=Nt hm (Am hs hx');have hne:=hz g (Array.mem_of_getElem? ef)
  cases ei:P.info? g.type with
  | none=>simp[Program.cellsOf,ei]at hne
  | some ig=>
   have hne':ig.size≠0:=by simpa[Program.cellsOf,ei]using hne
   refine⟨_,hr,?_⟩;simp only[execOp,ho,Instr.fieldAt,hv,Instr.sureAddr,Sem.run_bind,Sem.run_pure,Result.andThen_ok,Al e2,ef,fieldPlace,sizeOf,typeInfo,run_program,ei,hne',if_false]
theorem At(hT:Cn P T){t:TypeId}{x y:Operand}{ex:Bool}{es:List (List AV)}{k:IntKind}{n:Int}{i j:Ar}{u:Nat}{cs:List AV}(ho:o.op= .indexAddr t x y)(hx:Ak e x=some (.lst ex es))(hy:Ak e y=some (.int k n))
 (hi:T t=some i) (hk:i.k= .slice u) (hj:T u=some j) (h0:0<=n) (hn:es[n.toNat]?=some cs) (hsz:cs.length=j.size):QLoc P o e h [] (.loc cs):=by
 intro H ι a w s hs h1 h2;have hx':Ak s.env x=some (.lst ex es):=by rw[h1 x (by rw[ho];simp[Op.operands]),hx]
 have hy':Ak s.env y=some (.int k n):=by rw[h1 y (by rw[ho];simp[Op.operands]),hy]
 obtain⟨info,d,e1,e2,e3,e4,e5,e6⟩:=Aj (hT _ _ hi);obtain⟨info',d',e1',e2',e3',e4',e5',e6'⟩:=Aj (hT _ _ hj);have hd:=Bn (P:=P) (d:=d) (e3▸hk);subst hd;have hvy:a.eval y= .int k n:=(Am hs hy').int_inv;have hvx:=Am hs hx';have hlt:n.toNat<es.length:=by
  rcases Nat.lt_or_ge n.toNat es.length with h | h
  . exact h
  . rw[List.getElem?_eq_none h]at hn;cases hn
 generalize hva:a.eval x=va at hvx;rcases hvx.lst_inv with⟨rfl,_⟩ |⟨hne,b,off,cap,sz,c,vals,rfl,hb,hsz',hv,hr,hc1,hex,hcap,hmax⟩
 . simp at hn
 . have hszz:sz=j.size:=by rw[<-hsz' _ _ hn];exact hsz
   refine⟨.pointer (some ⟨b,off+n.toNat*j.size,none⟩),?_,?_⟩
   . refine .loc _ _ b _ c (fun q=>vals n.toNat q) hb (fun q x hq=>?_) (fun q x hq=>hr _ _ _ _ hn hq) (fun q x hq=>hc1 _ _ _ _ hn hq);rw[<-hszz];exact hv _ _ _ _ hn hq
   . have hcond:0<=n/\n<(es.length:Int):=⟨h0,by omega⟩;simp[execOp,ho,Instr.indexAt,hva,hvy,asIntOf,Al e2,sizeOf,typeInfo,e1',e4',hcond,ER]
theorem Ac(hT:Cn P T){t:TypeId}{x y:Operand}{b m off len:Nat}{p:Bool}{sz:Nat}{es:List (List AV)}{k:IntKind}{n:Int}{i j:Ar}{u:Nat}(ho:o.op= .indexAddr t x y)(hx:Ak e x=some (.ref b m off len))(hy:Ak e y=some (.int k n))
 (hi:T t=some i) (hk:i.k= .slice u) (hj:T u=some j) (hb:h b=some (.row p sz es)) (hm:m=es.length) (hsz:sz=j.size) (h0:0<=n) (hn:n<len):QLoc P o e h [b] (.ptr b m (off+n.toNat) 0):=by
 intro H ι a w s hs h1 h2;have hx':Ak s.env x=some (.ref b m off len):=by rw[h1 x (by rw[ho];simp[Op.operands]),hx]
 have hy':Ak s.env y=some (.int k n):=by rw[h1 y (by rw[ho];simp[Op.operands]),hy]
 have hb':s.h b=some (.row p sz es):=by rw[h2 b (by simp),hb]
 obtain⟨info,d,e1,e2,e3,e4,e5,e6⟩:=Aj (hT _ _ hi);obtain⟨info',d',e1',e2',e3',e4',e5',e6'⟩:=Aj (hT _ _ hj);have hd:=Bn (P:=P) (d:=d) (e3▸hk);subst hd;have hvy:a.eval y= .int k n:=(Am hs hy').int_inv;have hvx:=Am hs hx';obtain⟨r,hl,ho',_⟩:=hs.heap.obj b _ hb' rfl;obtain⟨g1,g2,g3,g4,gu,gx⟩:=ho';generalize hva:a.eval x=va at hvx;have hsol:r.csz≠0:=fun h0=>by
  obtain⟨h1,_⟩:=hvx.ref_dry hl (by omega) h0 (by omega);omega
 obtain⟨hlen,cap,rfl,hlc,hcap,hmax⟩:=hvx.ref_live hl (by omega) hsol;refine⟨.pointer (some ⟨r.rb,off*r.sz+n.toNat*j.size,none⟩),?_,?_⟩
 . have:off*r.sz+n.toNat*j.size=(off+n.toNat)*r.sz+0:=by rw[g1,hsz,Nat.add_mul];omega
   rw[this];exact .ptrL _ _ _ _ _ r hl (by omega)
 . have hcond:0<=n/\n<(len:Int):=⟨h0,hn⟩;simp[execOp,ho,Instr.indexAt,hva,hvy,asIntOf,Al e2,sizeOf,typeInfo,e1',e4',hcond,ER]
theorem Sn(hT:Cn P T){t:TypeId}{x y:Operand}{p r:AV}{k:IntKind}{n:Int}{i j:Ar}{len u:Nat}(ho:o.op= .indexAddr t x y)(hx:Ak e x=some p)(hy:Ak e y=some (.int k n))
 (hi:T t=some i) (hk:i.k= .array len u) (hj:T u=some j) (h0:0<=n) (hn:n<len) (hm:H3 p (n.toNat*j.size)=some r):QLoc P o e h [] r:=by
 intro H ι a w s hs h1 h2;have hx':Ak s.env x=some p:=by rw[h1 x (by rw[ho];simp[Op.operands]),hx]
 have hy':Ak s.env y=some (.int k n):=by rw[h1 y (by rw[ho];simp[Op.operands]),hy]
 obtain⟨info,d,e1,e2,e3,e4,e5,e6⟩:=Aj (hT _ _ hi);obtain⟨info',d',e1',e2',e3',e4',e5',e6'⟩:=Aj (hT _ _ hj);have hd:=HK (P:=P) (d:=d) (e3▸hk);subst hd;have hvy:a.eval y= .int k n:=(Am hs hy').int_inv;obtain⟨ad,hva,hr⟩:=Nt hm (Am hs hx');have hcond:0<=n/\n<(len:Int):=⟨h0,hn⟩;refine⟨_,hr,?_⟩;simp[execOp,ho,Instr.indexAt,hva,hvy,asIntOf,Instr.sureAddr,Al e2,sizeOf,typeInfo,e1',e4',hcond]
def NC:AV->Option Nat
  | .lst _ es=>some es.length
  | .nil=>some 0
  | .ref _ _ _ len=>some len
  | .str s=>some s.size
  | _=>none
theorem ZM(hT:Cn P T){t:TypeId}{x:Operand}{p:AV}{n:Nat}{i:Ar}(ho:o.op= .call {callee:=.builtin .len,args:= #[x],argTypes:= #[t]})(hx:Ak e x=some p)(hi:T t=some i)
 (hk:(match p with | .str _=>(match i.k with | .string=>true | _=>false) | _=>(match i.k with | .slice _=>true | _=>false))=true) (hn:NC p=some n):QLoc P o e h [] (.int .i64 n):=by
 intro H ι a w s hs h1 h2;have hx':Ak s.env x=some p:=by rw[h1 x HC,hx]
 obtain⟨info,d,e1,e2,e3,e4,e5,e6⟩:=Aj (hT _ _ hi);have hv:=Am hs hx';generalize hva:a.eval x=va at hv;refine⟨.int .i64 n,.int _ _ _,?_⟩;have key:(Builtin.len_ #[t] o.type #[va]).run P w= .ok (.int .i64 n) w:=by
  have hs':(∀z,p≠ .str z)->∃u,d= .slice u:=fun hp=>by
   cases ek:i.k<;>cases p<;>simp[ek]at hk<;>first | exact⟨_,Bn (P:=P) (by rw[<-e3,ek])⟩ | exact absurd rfl (hp _)
  cases p with
  | str z=>
   simp only[NC,Option.some.injEq]at hn;subst hn;have hd:d= .string:=KC (P:=P) (by cases ek:i.k<;>simp[ek]at hk;rw[<-e3,ek]);subst hd;have:=hv.str_inv;subst this;simp[Builtin.len_,Al e2,goInt]
  | nil=>
   simp only[NC,Option.some.injEq]at hn;subst hn;obtain⟨u,rfl⟩:=hs' (by simp);have:=hv.nil_inv;subst this;simp[Builtin.len_,Al e2,goInt]
  | lst ex es=>
   simp only[NC,Option.some.injEq]at hn;subst hn;obtain⟨u,rfl⟩:=hs' (by simp);obtain⟨ad,cap,rfl⟩:=hv.lst_len;simp[Builtin.len_,Al e2,goInt]
  | ref b m off len=>
   simp only[NC,Option.some.injEq]at hn;subst hn;obtain⟨u,rfl⟩:=hs' (by simp);obtain⟨ad,cap,rfl⟩:=hv.ref_len;simp[Builtin.len_,Al e2,goInt]
  | _=>simp[NC]at hn
 simp only[execOp,ho,resolve,invoke,builtin,Sem.run_bind,Sem.run_pure,Result.andThen_ok,List.map_toArray,List.map_cons,List.map_nil,hva,key]
theorem KR{x:Operand}{k:Nat}{vs:List AV}{r:AV}(ho:o.op= .extract x k)(hx:Ak e x=some (.tup vs))(hr:vs[k]?=some r):QLoc P o e h [] r:=by
 intro H ι a w s hs h1 h2;have hx':Ak s.env x=some (.tup vs):=by rw[h1 x (by rw[ho];simp[Op.operands]),hx]
 have hv:=Am hs hx';generalize hva:a.eval x=va at hv;obtain⟨us,rfl,hl,hr'⟩:=hv.tup_inv;have hk:k<us.size:=by
  rw[<-hl];rcases Nat.lt_or_ge k vs.length with h | h
  . exact h
  . rw[List.getElem?_eq_none h]at hr;cases hr
 refine⟨us[k],hr' k r us[k] hr (by simp[hk]),?_⟩;simp[execOp,ho,hva,Instr.extract,hk]
theorem Uq{x:Operand}{p:AV}(ho:o.op= .nilCheck x)(hx:Ak e x=some p)(hp:(match p with | .loc _ | .ptr .. =>true | _=>false)=true):QLoc P o e h [] p:=by
 intro H ι a w s hs h1 h2;have hx':Ak s.env x=some p:=by rw[h1 x (by rw[ho];simp[Op.operands]),hx]
 have hv:=Am hs hx';refine⟨a.eval x,hv,?_⟩;generalize hva:a.eval x=va at hv
 cases p<;>simp at hp
 . obtain⟨b,off,c,vals,rfl,_⟩:=hv.loc_inv;simp[execOp,ho,hva]
 . obtain⟨ad,rfl⟩:=hv.ptr_some;simp[execOp,ho,hva]
theorem M5{x:Operand}{t:TypeId}{b:Bool}(ho:o.op= .unOp .not t x)(hx:Ak e x=some (.bool b)):QLoc P o e h [] (.bool (!b)):=by
 intro H ι a w s hs h1 h2;have hx':Ak s.env x=some (.bool b):=by rw[h1 x (by rw[ho];simp[Op.operands]),hx]
 have hv:=Am hs hx';generalize hva:a.eval x=va at hv;have:=hv.bool_inv;subst this;exact⟨_,.bool _ _,by simp[execOp,ho,hva,Op.unary]⟩
theorem E3{c x y:Operand}{p:AV}(b:Bool)(ho:o.op= .pick c x y)(hc:Ak e c=some (.bool b))(hb:b=true)(hx:Ak e x=some p):QLoc P o e h [] p:=by
 intro H ι a w s hs h1 h2;have hc':Ak s.env c=some (.bool b):=by rw[h1 c (by rw[ho];simp[Op.operands]),hc]
 have hx':Ak s.env x=some p:=by rw[h1 x (by rw[ho];simp[Op.operands]),hx]
 have hv:=Am hs hc';generalize hva:a.eval c=va at hv;have:=hv.bool_inv;subst this;exact⟨a.eval x,Am hs hx',by simp[execOp,ho,hva,asBool,hb]⟩
theorem Ek{c x y:Operand}{p:AV}(b:Bool)(ho:o.op= .pick c x y)(hc:Ak e c=some (.bool b))(hb:b=false)(hx:Ak e y=some p):QLoc P o e h [] p:=by
 intro H ι a w s hs h1 h2;have hc':Ak s.env c=some (.bool b):=by rw[h1 c (by rw[ho];simp[Op.operands]),hc]
 have hx':Ak s.env y=some p:=by rw[h1 y (by rw[ho];simp[Op.operands]),hx]
 have hv:=Am hs hc';generalize hva:a.eval c=va at hv;have:=hv.bool_inv;subst this;exact⟨a.eval y,Am hs hx',by simp[execOp,ho,hva,asBool,hb]⟩
theorem Xk(hT:Cn P T){t u:TypeId}{x:Operand}{k k':IntKind}{n:Int}{i j:Ar}(ho:o.op= .convert t u x)(hx:Ak e x=some (.int k' n))(hi:T t=some i)(hj:T u=some j)(hk:j.k= .int k):QLoc P o e h [] (.int k (k.wrap n)):=by
 intro H ι a w s hs h1 h2;have hx':Ak s.env x=some (.int k' n):=by rw[h1 x (by rw[ho];simp[Op.operands]),hx]
 obtain⟨info,d,e1,e2,e3,e4,e5,e6⟩:=Aj (hT _ _ hi);obtain⟨info',d',e1',e2',e3',e4',e5',e6'⟩:=Aj (hT _ _ hj);have hd:=Gv (P:=P) (d:=d') (e3'▸hk);subst hd;have hv:=Am hs hx';generalize hva:a.eval x=va at hv;have:=hv.int_inv;subst this;refine⟨_,.int _ _ _,?_⟩;simp only[execOp,ho,hva,convert,Sem.run_bind,Al e2,Al e2',Result.andThen_ok,Conv.intToInt,Sem.run_pure]
end
end Go.Proofs.YtbbfelelocccmaaGreat.Sv
namespace Go.Proofs.YtbbfelelocccmaaGreat.Sv
open Go
def Dp(ι:Ba)(b:Nat)(r:Ent):Ba:=fun x=>bif Nat.beq x b then some r else ι x
theorem Bb(ι:Ba)(b:Nat)(r:Ent):Dp ι b r b=some r:=by simp[Dp]
theorem C7(ι:Ba){b x:Nat}(r:Ent)(hne:x≠b):Dp ι b r x=ι x:=by simp only[Dp,Af hne,cond_false]
def Jw(H:Ax)(b:Nat)(c:Array Value):Ax:=fun x=>bif Nat.beq x b then some c else H x
theorem FA(H:Ax)(b:Nat)(c:Array Value):Jw H b c b=some c:=by simp[Jw]
theorem Em(H:Ax){b x:Nat}(c:Array Value)(hne:x≠b):Jw H b c x=H x:=by simp only[Jw,Af hne,cond_false]
theorem rowCells.mono{H H':Ax}{ι ι':Ba}{sz:Nat}{es:List (List AV)}{c:Array Value}(h:rowCells H ι sz es c)(hH:KLe H H')(hl:LLe ι ι'):rowCells H' ι' sz es c:=
 ⟨h.1,fun i cs j x e1 e2=>let ⟨v,e3,e4,e5⟩:=h.2 i cs j x e1 e2;⟨v,e3,e4.mono hH hl,e5⟩⟩
theorem ObjOk.mono{H H':Ax}{ι ι':Ba}{w w':World}{r:Ent}{o:AObj}(h:ObjOk H ι w r o)(hH:KLe H H')(hl:LLe ι ι')(hw:r.solid->w'.heap[r.rb]?=w.heap[r.rb]?):ObjOk H' ι' w' r o:=by
 cases o with
 | free=>trivial
 | row p sz es=>
  obtain⟨h1,h2,h3,h4,hu,hx⟩:=h;refine⟨h1,h2,h3,h4,hu,fun hsol=>?_⟩;obtain⟨c,T,h5,h6,h7⟩:=hx hsol;refine⟨c,T,h5.same (hw hsol),h6,h7.mono hH ?_⟩
  cases p
  . exact hl
  . exact LLe.refl _
 | map kvs=>
  obtain⟨h1,hsol,es,clk,h2,⟨h3,h4⟩,h5⟩:=h;exact⟨h1,hsol,es,clk,(hw hsol).trans h2,⟨h3,fun j k v e=>let ⟨en,e1,e2,e3⟩:=h4 j k v e;⟨en,e1,e2.mono hH (LLe.refl _),e3.mono hH (LLe.refl _)⟩⟩,h5⟩
 | iter0=>exact⟨h.1,h.2.1,h.2.2.1,(hw h.2.2.1).trans h.2.2.2⟩
theorem LLe.put{ι:Ba}{b:Nat}{r':Ent}(h: ∀r,ι b=some r->r'=r\/r.n<r'.n/\0<r.sz/\r'.sz=r.sz):LLe ι (Dp ι b r'):=fun x r e=>by
 by_cases hx:x=b
 . subst hx;exact⟨r',Bb _ _ _,h r e⟩
 . exact⟨r,by rw[C7 _ _ hx];exact e,.inl rfl⟩
theorem HeapRel.grow{H:Ax}{ι:Ba}{h:Ab}{w w':World}(hr:HeapRel H ι h w)(hk: ∀rb,rb<w.heap.size->w'.heap[rb]?=w.heap[rb]?):HeapRel H ι h w' where
 know:=fun b c hc=>by
  obtain⟨T,fr,e⟩:=hr.know b c hc;exact⟨T,fr,by rw[hk b (hr.knowlt hc)];exact e⟩
 free:=hr.free
 obj:=fun b o h1 h2=>by
  obtain⟨r,e1,e2,e3⟩:=hr.obj b o h1 h2;exact⟨r,e1,e2.mono (KLe.refl _) (LLe.refl _) (fun hsol=>hk _ (hr.lt ⟨b,o,r,h1,h2,e1,hsol,rfl⟩)),e3⟩
 inj:=hr.inj
 glob:=hr.glob
theorem Step.grow{H:Ax}{ι:Ba}{h:Ab}{w w':World}(hk: ∀rb,rb<w.heap.size->w'.heap[rb]?=w.heap[rb]?)(hs:w.heap.size<=w'.heap.size)(ho:w'.os=w.os)(hu:w'.output=w.output):Step H ι h w H ι h w' where
 size:=hs
 os:=ho
 out:=hu
 keep:=fun rb hlt _=>hk rb hlt
 kle:=KLe.refl _
 knew:=fun _ h=>.inl h
 lle:=LLe.refl _
 lframe:=fun _ _=>rfl
 newrb:=fun _ _ h _=>.inl h
 dom:=fun _ h=>h
theorem HeapRel.upd{H:Ax}{ι:Ba}{h:Ab}{w w':World}(hr:HeapRel H ι h w){b:Nat}{o0 o':AObj}{r':Ent}(hb:h b=some o0)(ha:o'.alive=true)
 (hent:o0= .free\/∃r,ι b=some r/\o0.alive=true/\(r'=r\/r.n<r'.n/\0<r.sz/\r'.sz=r.sz))
 (hrb:r'.solid->w.heap.size<=r'.rb\/∃r,ι b=some r/\o0.alive=true/\r.solid/\r'.rb=r.rb)
 (hk: ∀rb,rb<w.heap.size->(∀r,ι b=some r->o0.alive=true->r.solid->rb≠r.rb)->w'.heap[rb]?=w.heap[rb]?) (hs:w.heap.size<=w'.heap.size) (ho:w'.os=w.os) (hu:w'.output=w.output)
 (hobj:ObjOk H (Dp ι b r') w' r' o'):HeapRel H (Dp ι b r') (hput h b o') w'/\Step H ι h w H (Dp ι b r') (hput h b o') w':=by
 have hll:LLe ι (Dp ι b r'):=LLe.put fun r e=>by
  rcases hent with rfl |⟨r0,e0,_,h1⟩
  . rw[hr.free b hb]at e;cases e
  . rw[e]at e0;cases e0;exact h1
 have hHrb:r'.solid->∀c,H r'.rb≠some c:=fun hsol c hc=>by
  rcases hrb hsol with h1 |⟨r0,e0,ea,hsol0,h1⟩
  . have:=hr.knowlt hc;omega
  . obtain⟨r1,e1,_,e3⟩:=hr.obj b o0 hb ea;rw[e0]at e1;cases e1;rw[h1,e3 hsol0]at hc;cases hc
 have hrbne: ∀x o r,x≠b->h x=some o->o.alive=true->ι x=some r->r.solid->r'.solid->r'.rb≠r.rb:=fun x o r hx h1 h2 h3 hsol hsol' heq=>by
  have hlt:=hr.lt ⟨x,o,r,h1,h2,h3,hsol,rfl⟩;rcases hrb hsol' with h4 |⟨r0,e0,ea,hsol0,h4⟩
  . omega
  . exact hr.inj b x o0 o r0 r hb ea h1 h2 e0 h3 hsol0 hsol (Ne.symm hx) (h4.symm.trans heq)
 refine⟨⟨fun x c hc=>?_,fun x hx=>?_,fun x o h1 h2=>?_,fun x y o1 o2 r1 r2 h1 h2 h3 h4 h5 h6 hs1 hs2 hne=>?_,hr.glob⟩,⟨hs,ho,hu,fun rb hlt hno=>?_,KLe.refl _,fun _ h=>.inl h,hll,fun x hx=>?_,fun x r1 hx hsol=>?_,fun x hx=>?_⟩⟩
 . obtain⟨T,fr,e⟩:=hr.know x c hc;refine⟨T,fr,?_⟩;rw[hk x (hr.knowlt hc) (fun r e1 e2 hsol heq=>?_)]
   . exact e
   . obtain⟨r1,e3,_,e5⟩:=hr.obj b o0 hb e2;rw[e1]at e3;cases e3;rw[heq,e5 hsol]at hc;cases hc
 . by_cases hxb:x=b
   . subst hxb;rw[Ap]at hx;cases hx;cases ha
   . rw[AF _ _ hxb]at hx;rw[C7 _ _ hxb];exact hr.free x hx
 . by_cases hxb:x=b
   . subst hxb;rw[Ap]at h1;cases h1;refine⟨r',Bb _ _ _,hobj,fun hsol=>?_⟩
     cases e:H r'.rb with
     | none=>rfl
     | some c=>exact absurd e (hHrb hsol c)
   . rw[AF _ _ hxb]at h1;obtain⟨r,e1,e2,e3⟩:=hr.obj x o h1 h2;refine⟨r,by rw[C7 _ _ hxb];exact e1,e2.mono (KLe.refl _) hll (fun hsol=>hk _ (hr.lt ⟨x,o,r,h1,h2,e1,hsol,rfl⟩) (fun r0 e4 e5 hsol0=>?_)),e3⟩;exact hr.inj x b o o0 r r0 h1 h2 hb e5 e1 e4 hsol hsol0 hxb
 . by_cases hxb:x=b
   . subst hxb;rw[Bb]at h5;cases h5;rw[AF _ _ (Ne.symm hne)]at h3;rw[C7 _ _ (Ne.symm hne)]at h6;exact hrbne y o2 r2 (Ne.symm hne) h3 h4 h6 hs2 hs1
   . rw[AF _ _ hxb]at h1;rw[C7 _ _ hxb]at h5
     by_cases hyb:y=b
     . subst hyb;rw[Bb]at h6;cases h6;exact Ne.symm (hrbne x o1 r1 hxb h1 h2 h5 hs1 hs2)
     . rw[AF _ _ hyb]at h3;rw[C7 _ _ hyb]at h6;exact hr.inj x y o1 o2 r1 r2 h1 h2 h3 h4 h5 h6 hs1 hs2 hne
 . exact hk rb hlt fun r e1 e2 hsol heq=>hno ⟨b,o0,r,hb,e2,e1,hsol,heq.symm⟩
 . have hxb:x≠b:=fun h=>by subst h;rw[hb]at hx;cases hx
   exact C7 _ _ hxb
 . by_cases hxb:x=b
   . subst hxb;rw[Bb]at hx;cases hx;rcases hrb hsol with h4 |⟨r0,e0,ea,hsol0,h4⟩
     . exact .inr (.inl h4)
     . exact .inr (.inr ⟨r0,e0,hsol0,h4.symm⟩)
   . rw[C7 _ _ hxb]at hx;exact .inl hx
 . have hxb:x≠b:=fun h=>by subst h;rw[hb]at hx;cases hx
   rw[AF _ _ hxb];exact hx
theorem HeapRel.know_new{H:Ax}{ι:Ba}{h:Ab}{w:World}(hr:HeapRel H ι h w)(c:Array Value)(T:TypeId):
 HeapRel (Jw H w.heap.size c) ι h (w.alloc (.cells c T))/\Step H ι h w (Jw H w.heap.size c) ι h (w.alloc (.cells c T))/\KLe H (Jw H w.heap.size c):=by
 have hnone:H w.heap.size=none:=by
  cases e:H w.heap.size with
  | none=>rfl
  | some c=>have:=hr.knowlt e;omega
 have hkle:KLe H (Jw H w.heap.size c):=fun b c' e=>by
  rw[Em _ _ (fun hb=>by subst hb;rw[hnone]at e;cases e)];exact e
 have hold: ∀rb,rb<w.heap.size->(w.alloc (.cells c T)).heap[rb]?=w.heap[rb]?:=fun rb hlt=>heap_alloc_old w _ hlt
 have hg:=hr.grow hold;refine⟨⟨fun b c' e=>?_,hg.free,fun b o h1 h2=>?_,hg.inj,hg.glob.mono hkle⟩,⟨by simp,rfl,rfl,fun rb hlt _=>hold rb hlt,hkle,fun b hb=>?_,LLe.refl _,fun _ _=>rfl,fun _ _ h _=>.inl h,fun _ h=>h⟩,hkle⟩
 . by_cases hb:b=w.heap.size
   . subst hb;rw[FA]at e;cases e;exact⟨T,(0,0),heap_alloc_new w _⟩
   . rw[Em _ _ hb]at e;exact hg.know b c' e
 . obtain⟨r,e1,e2,e3⟩:=hg.obj b o h1 h2;refine⟨r,e1,e2.mono hkle (LLe.refl _) (fun _=>rfl),fun hsol=>?_⟩;have hlt:=hr.lt ⟨b,o,r,h1,h2,e1,hsol,rfl⟩;rw[Em _ _ (by omega)];exact e3 hsol
 . by_cases hb':b=w.heap.size
   . subst hb';exact .inr (.inl (Nat.le_refl _))
   . rw[Em _ _ hb']at hb;exact .inl hb
end Go.Proofs.YtbbfelelocccmaaGreat.Sv
namespace Go.Proofs.YtbbfelelocccmaaGreat.Sv
open Go
def AV.cells:AV->List AV
  | .agg cs=>cs
  | x=>[x]
def AV.isPure1:AV->Bool
  | .bool _ | .int .. | .str _ | .nil | .nilp | .lst .. | .loc _ | .val _=>true
  | _=>false
def AV.isPure:AV->Bool
  | .agg cs=>cs.all AV.isPure1
  | .tup cs=>cs.all fun x=>match x with
    | .agg cs=>cs.all AV.isPure1
    | x=>x.isPure1
  | x=>x.isPure1
theorem CU{H:Ax}{ι ι':Ba}{x:AV}{v:Value}(hp:x.isPure1=true)(h:Rel H ι x v):Rel H ι' x v:=by
 cases h<;>simp[AV.isPure1]at hp
 . exact .bool _ _
 . exact .int _ _ _
 . exact .str _ _
 . exact .nil _
 . exact .nilp _
 . exact .lst0 _ _ _ _ (by assumption) (by assumption) (by assumption) (by assumption)
 . exact .lst _ _ _ _ _ _ _ _ _ (by assumption) (by assumption) (by assumption) (by assumption) (by assumption) (by assumption) (by assumption) (by assumption) (by assumption)
 . exact .loc _ _ _ _ _ _ (by assumption) (by assumption) (by assumption) (by assumption)
 . exact .val _ _ (by assumption)
theorem LO{H:Ax}{ι ι':Ba}{cs:List AV}{v:Value}(hp:cs.all AV.isPure1=true)(h:Rel H ι (.agg cs) v):Rel H ι' (.agg cs) v:=by
 obtain⟨us,rfl,hl,hr⟩:=h.agg_inv;exact .agg _ _ _ hl fun j x u h1 h2=>CU (List.all_eq_true.1 hp x (List.mem_of_getElem? h1)) (hr j x u h1 h2)
theorem FR{H:Ax}{ι ι':Ba}{x:AV}{v:Value}(hp:x.isPure=true)(h:Rel H ι x v):Rel H ι' x v:=by
 cases x with
 | agg cs=>exact LO hp h
 | tup cs=>
  obtain⟨us,rfl,hl,hr⟩:=h.tup_inv;refine .tup _ _ _ hl fun j x u h1 h2=>?_
  have:=List.all_eq_true.1 hp x (List.mem_of_getElem? h1);have h3:=hr j x u h1 h2
  cases x with
  | agg cs=>exact LO this h3
  | _=>exact CU this h3
 | _=>exact CU hp h
theorem UA{v:Value}(h:dM v=true):v.cells= #[v]:=by cases v<;>first | rfl | cases h
theorem Z6{v:Value}(h:dM v=true):v.oneCell'=true:=by cases v<;>first | rfl | cases h
theorem FD{H:Ax}{ι:Ba}{x:AV}{v:Value}(h:Rel H ι x v):x.cells.length=v.cells.size/\∀(j:Nat) (y:AV) (u:Value),x.cells[j]?=some y->v.cells[j]?=some u->Rel H ι y u:=by
 cases x with
 | agg cs=>obtain⟨us,rfl,hl,hr⟩:=h.agg_inv;exact⟨hl,hr⟩
 | _=>
  have hv:v.cells= #[v]:=by cases h<;>first | rfl | exact UA (by assumption)
  rw[hv];refine⟨rfl,fun j y u h1 h2=>?_⟩
  cases j with
  | zero=>simp[AV.cells]at h1 h2;subst h1;subst h2;exact h
  | succ j=>simp[AV.cells]at h1
theorem cell1_rel{H:Ax}{ι:Ba}{x:AV}{v:Value}(h:Rel H ι x v)(h1:x.cell1=true):v.oneCell'=true:=by
 cases h<;>first | rfl | exact Z6 (by assumption) |(simp[AV.cell1]at h1)
theorem Br{α:Type}{c:Array α}{j:Nat}(h:j<c.size): ∃v,c[j]?=some v:=⟨c[j],by simp[h]⟩
theorem JQ{H:Ax}{ι:Ba}{cs:List AV}{vs:Array Value}(hl:cs.length=vs.size)(hr: ∀(j:Nat) (y:AV) (u:Value),cs[j]?=some y->vs[j]?=some u->Rel H ι y u)(h1:cs.all AV.cell1=true):
 rowCells H ι cs.length [cs] vs:=by
 refine⟨fun i c e=>?_,fun i c j x e1 e2=>?_⟩
 . cases i with
   | zero=>simp at e;rw[e]
   | succ i=>simp at e
 . cases i with
   | succ i=>simp at e1
   | zero=>
    simp at e1;subst e1;have hj:j<vs.size:=by
     rw[<-hl];exact fZ
    obtain⟨v,hv⟩:=Br hj;exact⟨v,by simpa using hv,hr j x v e2 hv,List.all_eq_true.1 h1 x (List.mem_of_getElem? e2)⟩
theorem dU{H:Ax}{ι:Ba}{h:Ab}{w w0:World}(hr:HeapRel H ι h w)(h0:w0.heap=w.heap)(ho:w0.os=w.os)(hu:w0.output=w.output){b:Nat}(hb:h b=some .free)(p:Bool){sz:Nat}{es:List (List AV)}{c:Array Value}(T:TypeId)
 (hsz:0<sz) (hlen:es.length*sz<=c.size) (hc:rowCells H (bif p then AQ else ι) sz es c):
 HeapRel H (Dp ι b ⟨w.heap.size,sz,es.length,c.size⟩) (hput h b (.row p sz es)) (w0.alloc (.cells c T))/\Step H ι h w H (Dp ι b ⟨w.heap.size,sz,es.length,c.size⟩) (hput h b (.row p sz es)) (w0.alloc (.cells c T)):=by
 refine hr.upd (o0:=.free) hb rfl (.inl rfl) (fun _=>.inl (Nat.le_refl _)) (fun rb hlt _=>?_) (by simp[h0]) ho hu ⟨rfl,hsz,rfl,hlen,hc.1,fun _=>⟨c,T,.plain ?_,rfl,hc.mono (KLe.refl _) ?_⟩⟩
 . rw[heap_alloc_old w0 _ (by rw[h0];exact hlt),h0]
 . show(w0.alloc (.cells c T)).heap[w.heap.size]?=_;rw[<-h0];exact heap_alloc_new w0 _
 . cases p
   . exact LLe.put fun r e=>by change ι b=some r at e;rw[hr.free b hb]at e;cases e
   . exact LLe.refl _
section
variable {P : Program} {T : Nat -> Option Ar} {o : Oper} {e : As} {h : Ab}
theorem DL{b:Nat}{p:Bool}{sz:Nat}{es:List (List AV)}{r:AV}{R:List Nat}(hb:h b=some .free)(hR:b∈R)(hsz:0<sz)
 (hrun: ∀(H:Ax) (ι:Ba) (a:Act) (w:World) (s:Ai),Sim H ι s a w->(∀x∈o.op.operands,Ak s.env x=Ak e x)->(∀b∈R,s.h b=h b)->
  ∃(v:Value) (c:Array Value) (TT:TypeId) (w0:World),w0.heap=w.heap/\w0.os=w.os/\w0.output=w.output/\es.length*sz<=c.size/\rowCells H (bif p then AQ else ι) sz es c/\(execOp a.eval o).run P w= .ok (.value v) (w0.alloc (.cells c TT))/\
   Rel H (Dp ι b ⟨w.heap.size,sz,es.length,c.size⟩) r v):OLoc P o e h R [(b,.row p sz es)] (some r):=by
 intro H ι a w s Q hs h1 h2;have hb':s.h b=some .free:=by rw[h2 b hR,hb]
 obtain⟨v,c,TT,w0,e1,e2,e3,e4,e5,e6,e7⟩:=hrun H ι a w s hs h1 h2;obtain⟨g1,g2⟩:=dU hs.heap e1 e2 e3 hb' p TT hsz e4 e5;unfold Oper.wp;rw[e6];exact⟨v,H,_,rfl,fun x ex=>by cases ex;exact e7,g1,g2⟩
theorem Hg(hT:Cn P T){t:TypeId}{i:Ar}(b:Nat)(ho:o.op= .alloc t)(hi:T t=some i)(hb:h b=some .free)(hz:i.zero.length=i.size)(hp:0<i.size)(h1:i.zero.all AV.cell1=true):
 OLoc P o e h [b] [(b,.row false i.size [i.zero])] (some (.ptr b 1 0 0)):=by
 refine DL hb (by simp) hp fun H ι a w s hs g1 g2=>?_
 obtain⟨info,d,e1,e2,e3,e4,e5,e6⟩:=Aj (hT _ _ hi);obtain⟨z,hz1,hz2⟩:=DM e6 hz hp;obtain⟨z1,z2⟩:=Dl (H:=H) (ι:=ι) hz2;have z1':i.zero.length=z.cells.size:=by simpa using z1
 refine⟨_,z.cells,t,w,rfl,rfl,rfl,by simp;omega,?_,?_,.ptrL _ _ _ _ _ _ (Bb _ _ _) rfl⟩
 . have:=JQ (H:=H) (ι:=ι) z1' (fun j y u h1 h2=>z2 j y u h1 (by simpa using h2)) h1;rw[hz]at this;exact this
 . simp[execOp,ho,Instr.alloc,zeroValue,typeInfo,e1,hz1,newVar,newRow]
theorem fy{t:TypeId}{x:Operand}{p:AV}{sz:Nat}(b:Nat)(ho:o.op= .box t x)(hx:Ak e x=some p)(hb:h b=some .free)(hsz:p.cells.length=sz)(hp:0<sz)(h1:p.cells.all AV.cell1=true):
 OLoc P o e h [b] [(b,.row false sz [p.cells])] (some (.ptr b 1 0 0)):=by
 refine DL hb (by simp) hp fun H ι a w s hs g1 g2=>?_
 have hx':Ak s.env x=some p:=by rw[g1 x (by rw[ho];simp[Op.operands]),hx]
 obtain⟨c1,c2⟩:=FD (Am hs hx');refine⟨_,(a.eval x).cells,t,w,rfl,rfl,rfl,by simp;omega,?_,?_,.ptrL _ _ _ _ _ _ (Bb _ _ _) rfl⟩
 . have:=JQ (H:=H) (ι:=ι) c1 c2 h1;rw[hsz]at this;exact this
 . simp[execOp,ho,Instr.box,newVar,newRow]
def DZ(cs:List AV)(o:Nat)(vs:List AV):List AV:=cs.take o++vs++cs.drop (o+vs.length)
theorem EV{cs vs:List AV}{o:Nat}(h:o+vs.length<=cs.length):(DZ cs o vs).length=cs.length:=by
 simp[DZ];omega
theorem ME{cs vs:List AV}{o j:Nat}(h:o+vs.length<=cs.length):(DZ cs o vs)[j]?=if j<o then cs[j]? else if j<o+vs.length then vs[j-o]? else cs[j]?:=by
 unfold DZ
 by_cases h1:j<o
 . rw[if_pos h1,List.append_assoc,List.getElem?_append_left (by simp;omega),List.getElem?_take_of_lt h1]
 . rw[if_neg h1,List.append_assoc,List.getElem?_append_right (by simp;omega)];have hm:min o cs.length=o:=by omega
   simp only[List.length_take,hm]
   by_cases h2:j<o+vs.length
   . rw[if_pos h2,List.getElem?_append_left (by omega)]
   . rw[if_neg h2,List.getElem?_append_right (by omega),List.getElem?_drop];congr 1;omega
theorem KH(w:World)(g:Nat)(cs:Array Value):(w.setRow g cs).os=w.os:=rfl
theorem Jj(w:World)(g:Nat)(cs:Array Value):(w.setRow g cs).output=w.output:=rfl
theorem Fq{P:Program}{w:World}{t:TypeId}{info:TypeInfo}(h:P.info? t=some info):(sizeOf t).run P w= .ok info.size w:=by simp[sizeOf,typeInfo,h]
theorem Cr{i n sz j:Nat}(h:i<n)(hj:j<sz):i*sz+j<n*sz:=by
 have:(i+1)*sz<=n*sz:=Nat.mul_le_mul_right _ h;rw[Nat.add_mul]at this;omega
theorem o_store(hT:Cn P T){t:TypeId}{x y:Operand}{b m k off:Nat}{p:Bool}{sz:Nat}{es:List (List AV)}{cs:List AV}{q:AV}{i:Ar}(ho:o.op= .store t x y)(hd:o.dst=none)(hx:Ak e x=some (.ptr b m k off))(hy:Ak e y=some q)(hi:T t=some i)
 (hb:h b=some (.row p sz es)) (hm:m=es.length) (hk:es[k]?=some cs) (hq:q.cells.length=i.size) (hfit:off+i.size<=sz) (h1:q.cells.all AV.cell1=true) (hp:p=true->q.cells.all AV.isPure1=true):
 OLoc P o e h [b] [(b,.row p sz (es.set k (DZ cs off q.cells)))] none:=by
 intro H ι a w s Q hs g1 g2;have hx':Ak s.env x=some (.ptr b m k off):=by rw[g1 x (by rw[ho];simp[Op.operands]),hx]
 have hy':Ak s.env y=some q:=by rw[g1 y (by rw[ho];simp[Op.operands]),hy]
 have hb':s.h b=some (.row p sz es):=by rw[g2 b (by simp),hb]
 obtain⟨info,d,e1,e2,e3,e4,e5,e6⟩:=Aj (hT _ _ hi);obtain⟨c1,c2⟩:=FD (Am hs hy');obtain⟨r,hl,⟨r1,r2,r3,r4,r5,r6⟩,r7⟩:=hs.heap.obj b _ hb' rfl;have hklt:k<es.length:=by
  rcases Nat.lt_or_ge k es.length with h | h
  . exact h
  . rw[List.getElem?_eq_none h]at hk;cases hk
 have hsol:r.solid:=fun h0=>by
  have:0<es.length*sz:=Nat.mul_pos (by omega) r2;omega
 obtain⟨c,TT,w1,w2,w3⟩:=r6 hsol;have hpv:=(Am hs hx').ptr_live hl (by omega);have hcs:cs.length=sz:=r5 k cs hk;have hlen:(a.eval y).cells.toList.length=i.size:=by rw[Array.length_toList,<-c1,hq]
 have hroom:k*sz+off+i.size<=c.size:=by
  have:(k+1)*sz<=es.length*sz:=Nat.mul_le_mul_right _ hklt;rw[Nat.add_mul]at this;omega
 have hone: ∀v∈(a.eval y).cells.toList,v.oneCell'=true:=fun v hv=>by
  obtain⟨j,hj⟩:=List.getElem?_of_mem hv;have hjl:j<q.cells.length:=by
   rcases Nat.lt_or_ge j q.cells.length with h | h
   . exact h
   . rw[List.getElem?_eq_none (by rw[hlen];omega)]at hj;cases hj
  exact cell1_rel (c2 j _ v (List.getElem?_eq_getElem hjl) (by simpa using hj)) (List.all_eq_true.1 h1 _ (List.getElem_mem hjl))
 have hst:=FL P r.rb (k*sz+off) TT (a.eval y).cells.toList 0 c w w1 (by rw[hlen];omega) hone;simp only[Nat.add_zero,hlen]at hst;have hrun:(execOp a.eval o).run P w= .ok .skip (w.setRow r.rb (c.toList.take (k*sz+off)++(a.eval y).cells.toList++c.toList.drop (k*sz+off+i.size)).toArray):=by
  have hsize:(a.eval y).cells.size=info.size:=by rw[<-c1,hq,e4]
  simp only[execOp,ho,Instr.storeAt,hpv,Instr.sureAddr,Sem.run_bind,Sem.run_pure,Result.andThen_ok,storeVar,Fq e1,hsize,ne_eq,not_true_eq_false,if_false,r1,hst]
 have hobj:ObjOk H (Dp ι b r) (w.setRow r.rb (c.toList.take (k*sz+off)++(a.eval y).cells.toList++c.toList.drop (k*sz+off+i.size)).toArray) r (.row p sz (es.set k (DZ cs off q.cells))):=by
  have hsp:off+q.cells.length<=cs.length:=by omega
  refine⟨r1,r2,by simp[r3],by simp;exact r4,fun j x hj=>?_,fun _=>⟨_,TT,w1.setRow (by simp;omega),?_,fun j x hj=>?_,fun j x l z hj hl'=>?_⟩⟩
  . by_cases hjk:j=k
    . subst hjk;rw[List.getElem?_set_self hklt]at hj
      cases hj
      rw[EV hsp,hcs]
    . rw[List.getElem?_set_ne (Ne.symm hjk)]at hj;exact r5 j x hj
  . simp;omega
  . by_cases hjk:j=k
    . subst hjk;rw[List.getElem?_set_self hklt]at hj
      cases hj
      rw[EV hsp,hcs]
    . rw[List.getElem?_set_ne (Ne.symm hjk)]at hj;exact r5 j x hj
  . have hll:LLe (bif p then AQ else ι) (bif p then AQ else Dp ι b r):=by
     cases p
     . exact LLe.put fun r' e=>by change ι b=some r' at e;rw[hl]at e;cases e;exact .inl rfl
     . exact LLe.refl _
    have hjlt:j<es.length:=by
     rcases Nat.lt_or_ge j es.length with h | h
     . exact h
     . rw[List.getElem?_eq_none (by simpa using h)]at hj;cases hj
    have hllt:l<sz:=by
     have hxl:x.length=sz:=by
      by_cases hjk:j=k
      . subst hjk;rw[List.getElem?_set_self hklt]at hj;cases hj;rw[EV hsp,hcs]
      . rw[List.getElem?_set_ne (Ne.symm hjk)]at hj;exact r5 j x hj
     rcases Nat.lt_or_ge l x.length with h | h
     . omega
     . rw[List.getElem?_eq_none h]at hl';cases hl'
    -- what the new cells hold
    have hget: ∀u:Nat,(c.toList.take (k*sz+off)++(a.eval y).cells.toList++c.toList.drop (k*sz+off+i.size)).toArray[u]?=
     if u<k*sz+off then c[u]? else if u<k*sz+off+i.size then(a.eval y).cells[u-(k*sz+off)]? else c[u]?:=fun u=>by
     have hm:min (k*sz+off) c.size=k*sz+off:=by omega
     simp only[List.getElem?_toArray,List.append_assoc]
     by_cases h1:u<k*sz+off
     . rw[if_pos h1,List.getElem?_append_left (by simp;omega),List.getElem?_take_of_lt h1,Array.getElem?_toList]
     . rw[if_neg h1,List.getElem?_append_right (by simp;omega)];simp only[List.length_take,Array.length_toList,hm]
       by_cases h2:u<k*sz+off+i.size
       . rw[if_pos h2,List.getElem?_append_left (by rw[hlen];omega),Array.getElem?_toList]
       . rw[if_neg h2,List.getElem?_append_right (by rw[hlen];omega),List.getElem?_drop,hlen,Array.getElem?_toList];congr 1;omega
    rw[hget]
    by_cases hjk:j=k
    . subst hjk;rw[List.getElem?_set_self hklt]at hj
      cases hj
      rw[ME hsp]at hl'
      by_cases h3:l<off
      . rw[if_pos h3]at hl';rw[if_pos (by omega)];obtain⟨v,f1,f2,f3⟩:=w3.2 j cs l z hk hl';exact⟨v,f1,f2.mono (KLe.refl _) hll,f3⟩
      . rw[if_neg h3]at hl';rw[if_neg (by omega)]
        by_cases h4:l<off+q.cells.length
        . rw[if_pos h4]at hl';rw[if_pos (by omega)];have hidx:j*sz+l-(j*sz+off)=l-off:=by omega
          rw[hidx];have hlt:l-off<(a.eval y).cells.size:=by omega
          obtain⟨v,hv⟩:=Br hlt;have hz:=c2 _ _ _ hl' hv;refine⟨v,hv,?_,List.all_eq_true.1 h1 z (List.mem_of_getElem? hl')⟩
          cases p with
          | false=>exact hz.mono (KLe.refl _) hll
          | true=>exact CU (List.all_eq_true.1 (hp rfl) z (List.mem_of_getElem? hl')) hz
        . rw[if_neg h4]at hl';rw[if_neg (by omega)];obtain⟨v,f1,f2,f3⟩:=w3.2 j cs l z hk hl';exact⟨v,f1,f2.mono (KLe.refl _) hll,f3⟩
    . rw[List.getElem?_set_ne (Ne.symm hjk)]at hj;obtain⟨v,f1,f2,f3⟩:=w3.2 j x l z hj hl';refine⟨v,?_,f2.mono (KLe.refl _) hll,f3⟩;rcases Nat.lt_or_ge j k with h5 | h5
      . have:=Cr h5 hllt;rw[if_pos (by omega)];exact f1
      . have h6:(k+1)*sz<=j*sz:=Nat.mul_le_mul_right _ (by omega);rw[Nat.add_mul]at h6;rw[if_neg (by omega),if_neg (by omega)];exact f1
 obtain⟨u1,u2⟩:=hs.heap.upd (o0:=.row p sz es) (o':=.row p sz (es.set k (DZ cs off q.cells))) (r':=r) hb' rfl (.inr ⟨r,hl,rfl,.inl rfl⟩) (fun hs'=>.inr ⟨r,hl,rfl,hs',rfl⟩)
  (fun rb hlt hne=>setRow_other w r.rb rb _ (hne r hl rfl hsol)) (by simp) (KH _ _ _) (Jj _ _ _) hobj
 unfold Oper.wp;rw[hrun];exact⟨undef,H,_,rfl,(fun x ex=>by cases ex),u1,u2⟩
end
end Go.Proofs.YtbbfelelocccmaaGreat.Sv
namespace Go.Proofs.YtbbfelelocccmaaGreat.Sv
open Go
theorem Kf{z:Array Value}{n:Nat}{i j sz:Nat}(hz:z.size=sz)(hj:j<sz)(hi:i<n):(madeCells z (n*sz))[i*sz+j]?=z[j]?:=by
 have h1:=Cr hi hj;have h2:(i*sz+j)%sz=j:=by rw[Nat.mul_comm,Nat.mul_add_mod,Nat.mod_eq_of_lt hj]
 simp only[madeCells];rw[Array.getElem?_map,Array.getElem?_range];simp only[h1,if_true,Option.map_some,hz,h2];rw[getElem!_pos z j (by omega)];simp[hz,hj]
theorem OJ{H:Ax}{ι:Ba}{zs:List AV}{z:Array Value}{n m sz:Nat}(hl:zs.length=sz)(hz:z.size=sz)(hr: ∀(j:Nat) (x:AV) (v:Value),zs[j]?=some x->z[j]?=some v->Rel H ι x v)(h1:zs.all AV.cell1=true)(hn:n<=m):
 rowCells H ι sz (List.replicate n zs) (madeCells z (m*sz)):=by
 refine⟨fun i cs e=>?_,fun i cs j x e1 e2=>?_⟩
 . rw[List.getElem?_replicate]at e;split at e
   . cases e;exact hl
   . cases e
 . rw[List.getElem?_replicate]at e1;split at e1
   . rename_i hi
     cases e1
     have hj:j<sz:=by
      rw[<-hl];rcases Nat.lt_or_ge j zs.length with h | h
      . exact h
      . rw[List.getElem?_eq_none h]at e2;cases e2
     obtain⟨v,hv⟩:=Br (c:=z) (j:=j) (by omega);exact⟨v,by rw[Kf hz hj (by omega)];exact hv,hr j x v e2 hv,List.all_eq_true.1 h1 x (List.mem_of_getElem? e2)⟩
   . cases e1
section
variable {P : Program} {T : Nat -> Option Ar} {o : Oper} {e : As} {h : Ab}
theorem Az(hT:Cn P T){t:TypeId}{x y:Operand}{i j:Ar}{u:Nat}{n m:Nat}{k k':IntKind}{zi zj:Int}(b:Nat)(p:Bool)(ho:o.op= .makeSlice t x y)(hx:Ak e x=some (.int k zi))(hy:Ak e y=some (.int k' zj))(hni:zi=(n:Int))(hnj:zj=(m:Int))(hi:T t=some i)(hk:i.k= .slice u)(hj:T u=some j)
 (hb:h b=some .free) (hz:j.zero.length=j.size) (hp:0<j.size) (h1:j.zero.all AV.cell1=true) (hnm:n<=m) (hby:j.bytes*m<=281474976710656) (hm:m<=maxLen):
 OLoc P o e h [b] [(b,.row p j.size (List.replicate n j.zero))] (some (.ref b n 0 n)):=by
 refine DL hb (by simp) hp fun H ι a w s hs g1 g2=>?_
 have hx':Ak s.env x=some (.int k zi):=by rw[g1 x (by rw[ho];simp[Op.operands]),hx]
 have hy':Ak s.env y=some (.int k' zj):=by rw[g1 y (by rw[ho];simp[Op.operands]),hy]
 have hvx:=(Am hs hx').int_inv;have hvy:=(Am hs hy').int_inv;subst hni;subst hnj;obtain⟨info,d,e1,e2,e3,e4,e5,e6⟩:=Aj (hT _ _ hi);obtain⟨info',d',e1',e2',e3',e4',e5',e6'⟩:=Aj (hT _ _ hj);have hd:=Bn (P:=P) (d:=d) (e3▸hk);subst hd;obtain⟨z,hz1,hz2⟩:=DM e6' hz hp;obtain⟨z1,z2⟩:=Dl (H:=H) (ι:=AQ) hz2;have z1':z.cells.size=j.size:=by rw[<-hz];simpa using z1.symm
 have hm63:(m:Int)<=9223372036854775807:=by
  have:=hm;simp only[maxLen]at this;omega
 have hb'':(j.bytes:Int)*(m:Int)<=281474976710656:=by
  have hb':((j.bytes*m:Nat):Int)<=281474976710656:=by omega
  rwa[Int.natCast_mul]at hb'
 have hrun:=run_make (P:=P) w t u info' z e2 e1' hz1 k k' (n:Int) (m:Int) (by omega) (by omega) (by rw[e5'];exact hb'') hm63;simp only[Int.toNat_natCast,e4']at hrun;refine⟨.slice (some ⟨w.heap.size,0,none⟩) n m,madeCells z.cells (m*j.size),u,w,rfl,rfl,rfl,?_,?_,?_,?_⟩
 . rw[size_madeCells,List.length_replicate];exact Nat.mul_le_mul_right _ hnm
 . refine OJ hz z1' (fun q x v f1 f2=>(z2 q x v f1 (by simpa using f2)).mono (KLe.refl _) (LLe.none _)) h1 hnm
 . simp only[execOp,ho,hvx,hvy,Sem.run_bind,hrun,Result.andThen_ok,Sem.run_pure]
 . have:=Rel.refL (H:=H) (Dp ι b ⟨w.heap.size,j.size,(List.replicate n j.zero).length,(madeCells z.cells (m*j.size)).size⟩) b n 0 n m _ (Bb _ _ _) (by simp) (by omega) hnm (by simp[size_madeCells]) hm;simpa using this
inductive SrcOf(h:Ab):AV->List Nat->List (List AV)->Prop
  | lst (ex:Bool) (es:List (List AV)):SrcOf h (.lst ex es) [] es
  | nil:SrcOf h .nil [] []
  | ref (b n off len:Nat) (p:Bool) (sz:Nat) (es:List (List AV)) (hb:h b=some (.row p sz es)) (hn:n=es.length):SrcOf h (.ref b n off len) [b] ((es.drop off).take len)
theorem SC{c:Array Value}{off n j:Nat}(h:off+n<=c.size)(hj:j<n):((c.toList.drop off).take n)[j]?=c[off+j]?:=by
 rw[List.getElem?_take_of_lt hj,List.getElem?_drop,Array.getElem?_toList]
theorem KF{H:Ax}{ι:Ba}{w:World}(hr:HeapRel H ι h w){x:AV}{R:List Nat}{es:List (List AV)}(hsrc:SrcOf h x R es){v:Value}(hv:Rel H ι x v){tx e':TypeId}(hk:P.underlying tx=some (.slice e')){sz:Nat}(hsz:0<sz)(hu: ∀cs∈es,cs.length=sz)
 (w0:World) (hw0:w0.heap=w.heap):
 ∃news,Src P sz tx v es.length news w0/\(∀(i:Nat) (cs:List AV) (j:Nat) (y:AV),es[i]?=some cs->cs[j]?=some y->∃u,news[i*sz+j]?=some u/\Rel H ι y u/\y.cell1=true):=by
 have hcell: ∀a,w0.cell? a=w.cell? a:=fun a=>by simp[World.cell?,hw0]
 -- a common part
 have key: ∀(b off len cap:Nat) (c:Array Value) (TT:TypeId) (fr:Nat×Nat),w.heap[b]?=some (.cells c TT fr)->off+len*sz<=c.size->len=es.length->v= .slice (some ⟨b,off,none⟩) len cap->
  (∀(i:Nat) (cs:List AV) (j:Nat) (y:AV),es[i]?=some cs->cs[j]?=some y->∃u,c[off+i*sz+j]?=some u/\Rel H ι y u/\y.cell1=true)->
  ∃news,Src P sz tx v es.length news w0/\(∀(i:Nat) (cs:List AV) (j:Nat) (y:AV),es[i]?=some cs->cs[j]?=some y->∃u,news[i*sz+j]?=some u/\Rel H ι y u/\y.cell1=true):=by
  intro b off len cap c TT fr hb hfit hlen hv' hc;subst hlen;have hnl:((c.toList.drop off).take (es.length*sz)).length=es.length*sz:=by simp;omega
  have hget: ∀(i:Nat) (cs:List AV) (j:Nat) (y:AV),es[i]?=some cs->cs[j]?=some y->∃u,((c.toList.drop off).take (es.length*sz))[i*sz+j]?=some u/\Rel H ι y u/\y.cell1=true:=fun i cs j y h1 h2=>by
   obtain⟨u,f1,f2,f3⟩:=hc i cs j y h1 h2;have hi:i<es.length:=by
    rcases Nat.lt_or_ge i es.length with h | h
    . exact h
    . rw[List.getElem?_eq_none h]at h1;cases h1
   have hj:j<sz:=by
    rw[<-hu cs (List.mem_of_getElem? h1)];rcases Nat.lt_or_ge j cs.length with h | h
    . exact h
    . rw[List.getElem?_eq_none h]at h2;cases h2
   exact⟨u,by rw[SC hfit (Cr hi hj),<-Nat.add_assoc];exact f1,f2,f3⟩
  refine⟨(c.toList.drop off).take (es.length*sz),?_,hget⟩;subst hv';refine Src.ofSlice w0 hk _ _ _ _ hnl (fun j u hj=>?_) (fun u hu'=>?_)
  . have hjl:j<es.length*sz:=by
     rcases Nat.lt_or_ge j (es.length*sz)with h | h
     . exact h
     . rw[List.getElem?_eq_none (by rw[hnl];exact h)]at hj;cases hj
    rw[SC hfit hjl]at hj;rw[hcell,ER,Ko hb];exact hj
  . obtain⟨j,hj⟩:=List.getElem?_of_mem hu';have hjl:j<es.length*sz:=by
     rcases Nat.lt_or_ge j (es.length*sz)with h | h
     . exact h
     . rw[List.getElem?_eq_none (by rw[hnl];exact h)]at hj;cases hj
    have hi:j/sz<es.length:=Nat.div_lt_of_lt_mul (by rw[Nat.mul_comm];exact hjl);have hm:j%sz<sz:=Nat.mod_lt _ hsz;have hjj:j/sz*sz+j%sz=j:=by rw[Nat.mul_comm];exact Nat.div_add_mod j sz
    have hcs:(es[j/sz]).length=sz:=hu _ (List.getElem_mem hi);obtain⟨u',f1,f2,f3⟩:=hget (j/sz) es[j/sz] (j%sz) (es[j/sz])[j%sz] (List.getElem?_eq_getElem hi) (List.getElem?_eq_getElem (by omega));rw[hjj,hj]at f1
    cases f1
    exact cell1_rel f2 f3
 cases hsrc with
 | lst ex es=>
  rcases hv.lst_inv with⟨rfl,ad,cap,rfl,h1,h2,h3,h4⟩ |⟨hne,b,off,cap,sz',c,vals,rfl,hb,hsz',hvs,hrs,hc1,hex,hcap,hmax⟩
  . refine⟨[],?_,fun i cs j y h1=>by simp at h1⟩
    cases ad with
    | none=>have:=h3 rfl;subst this;exact Src.ofNil w0 hk 0
    | some x=>exact Src.ofSlice w0 hk x 0 cap [] (by simp) (fun j u hj=>by simp at hj) (fun u hu=>by simp at hu)
  . obtain⟨TT,fr,hw⟩:=hr.know b c hb;have hss:sz'=sz:=by
     exact f0
    subst hss;refine key b off es.length cap c TT fr hw ?_ rfl rfl (fun i cs j y h1 h2=>⟨_,hvs i cs j y h1 h2,(hrs i cs j y h1 h2).mono (KLe.refl _) (LLe.none _),hc1 i cs j y h1 h2⟩);have hlast:0<es.length:=by cases es with | nil=>exact absurd rfl hne | cons=>simp
    have hcl:(es[es.length-1]).length=sz':=hu _ (List.getElem_mem (by omega));have:=hvs (es.length-1) es[es.length-1] (sz'-1) (es[es.length-1])[sz'-1] (List.getElem?_eq_getElem (by omega)) (List.getElem?_eq_getElem (by omega));have hlt:off+(es.length-1)*sz'+(sz'-1)<c.size:=by
     rcases Nat.lt_or_ge (off+(es.length-1)*sz'+(sz'-1)) c.size with h | h
     . exact h
     . rw[Array.getElem?_eq_none h]at this;cases this
    have hmul:es.length*sz'=(es.length-1)*sz'+sz':=by
     rw[<-Nat.succ_mul];congr 1;omega
    omega
 | nil=>
  have:=hv.nil_inv;subst this;exact⟨[],Src.ofNil w0 hk 0,fun i cs j y h1=>by simp at h1⟩
 | ref b n off len p sz' es hb hn=>
  obtain⟨r,hl,⟨r1,r2,r3,r4,r5,r6⟩,r7⟩:=hr.obj b _ hb rfl
  by_cases hsol:r.csz=0
  . obtain⟨h0,ad,rfl,hsp⟩:=hv.ref_dry hl (by omega) hsol (by omega);subst h0;refine⟨[],?_,fun i cs j y h1=>by simp at h1⟩;simp only[List.take_zero,List.length_nil]
    cases ad with
    | none=>exact Src.ofNil w0 hk 0
    | some x=>exact Src.ofSlice w0 hk x 0 0 [] (by simp) (fun j u hj=>by simp at hj) (fun u hu=>by simp at hu)
  . obtain⟨hlen,cap,rfl,hlc,hcap,hmax⟩:=hv.ref_live hl (by omega) hsol;obtain⟨c,TT,w1,w2,w3⟩:=r6 hsol;have hlen':((es.drop off).take len).length=len:=by simp;omega
    by_cases h0:len=0
    . subst h0;refine⟨[],?_,fun i cs j y h1=>by simp at h1⟩;simp only[List.take_zero,List.length_nil];exact Src.ofSlice w0 hk _ 0 cap [] (by simp) (fun j u hj=>by simp at hj) (fun u hu=>by simp at hu)
    . have hss:sz'=sz:=by
       have ho:off<es.length:=by omega
       rw[<-r5 off es[off] (List.getElem?_eq_getElem ho)];exact hu _ (List.mem_of_getElem? (i:=0) (by rw[List.getElem?_take_of_lt (by omega),List.getElem?_drop];exact List.getElem?_eq_getElem ho))
      subst hss;obtain⟨fr,w1',_⟩:=w1;refine key r.rb (off*r.sz) len cap c TT fr w1' ?_ hlen'.symm rfl (fun i cs j y h1 h2=>?_)
      . rw[r1,w2,<-Nat.add_mul];refine Nat.le_trans (Nat.mul_le_mul_right _ ?_) r4;omega
      . have hi:i<len:=by
         rcases Nat.lt_or_ge i len with h | h
         . exact h
         . rw[List.getElem?_eq_none (by rw[hlen'];exact h)]at h1;cases h1
        rw[List.getElem?_take_of_lt hi,List.getElem?_drop]at h1;obtain⟨u,f1,f2,f3⟩:=w3.2 (off+i) cs j y h1 h2;refine⟨u,by rw[r1,<-Nat.add_mul];exact f1,?_,f3⟩
        cases p with
        | true=>exact f2.mono (KLe.refl _) (LLe.none _)
        | false=>exact f2
end
end Go.Proofs.YtbbfelelocccmaaGreat.Sv
namespace Go.Proofs.YtbbfelelocccmaaGreat.Sv
open Go
section
variable {P : Program} {T : Nat -> Option Ar} {o : Oper} {e : As} {h : Ab}
theorem SrcOf.agree{h h':Ab}{x:AV}{R:List Nat}{es:List (List AV)}(hs:SrcOf h x R es)(ha: ∀b∈R,h' b=h b):SrcOf h' x R es:=by
 cases hs with
 | lst=>exact .lst _ _
 | nil=>exact .nil
 | ref b n off len p sz es hb hn=>exact .ref b n off len p sz es (by rw[ha b (by simp)];exact hb) hn
theorem D0{w:World}(t tx ty u:TypeId)(i:TypeInfo)(ht:P.underlying t=some (.slice u))(hi:P.info? u=some i)(g sLen sCap:Nat)(cur:Array Value)(TT:TypeId)(hg:RowAt w g cur TT)(x:Value)(n:Nat)(news:List Value)
 (hs:Src P i.size tx x n news w) (hroom:sLen+n<=sCap) (hfit:sLen*i.size+news.length<=cur.size):
 (Builtin.append_ #[t,tx] ty #[.slice (some ⟨g,0,none⟩) sLen sCap,x]).run P w= .ok (.slice (some ⟨g,0,none⟩) (sLen+n) sCap)
  (w.setRow g (cur.toList.take (sLen*i.size)++news++cur.toList.drop (sLen*i.size+news.length)).toArray):=by
 have hst:=FL P g (sLen*i.size) TT news 0 cur w hg (by simpa using hfit) hs.one;simp only[Nat.add_zero]at hst;rcases hs.kind with⟨e',hk⟩ | hk<;>simp[Builtin.append_,run_underlying ht,run_underlying hk,sizeOf,typeInfo,hi,hs.len,hroom,hs.cells,Addr.add_lit,hst]
theorem HQ{w:World}(t tx ty u:TypeId)(i:TypeInfo)(ht:P.underlying t=some (.slice u))(hi:P.info? u=some i)(a:Option Addr)(x:Value)
 (hs:Src P i.size tx x 0 [] w):(Builtin.append_ #[t,tx] ty #[.slice a 0 0,x]).run P w= .ok (.slice a 0 0) w:=by
 have h1:=hs.len;have h2:=hs.cells;rcases hs.kind with⟨e',hk⟩ | hk<;>cases a<;>simp[Builtin.append_,run_underlying ht,run_underlying hk,sizeOf,typeInfo,hi,h1,h2,storeCells]
theorem Fc{H:Ax}{ι:Ba}{sz:Nat}{es es2:List (List AV)}{c:Array Value}{olds news:List Value}(ho:olds.length=es.length*sz)(hn:news.length=es2.length*sz)(h2: ∀cs∈es2,cs.length=sz)
 (hu: ∀(i:Nat) (cs:List AV),es[i]?=some cs->cs.length=sz)
 (h1: ∀(i:Nat) (cs:List AV) (j:Nat) (x:AV),es[i]?=some cs->cs[j]?=some x->∃v,olds[i*sz+j]?=some v/\Rel H ι x v/\x.cell1=true)
 (h3: ∀(i:Nat) (cs:List AV) (j:Nat) (x:AV),es2[i]?=some cs->cs[j]?=some x->∃v,news[i*sz+j]?=some v/\Rel H ι x v/\x.cell1=true)
 (hc: ∀j,j<olds.length+news.length->c[j]?=(olds++news)[j]?):rowCells H ι sz (es++es2) c:=by
 refine⟨fun i cs e=>?_,fun i cs j x e1 e2=>?_⟩
 . by_cases hi:i<es.length
   . rw[List.getElem?_append_left hi]at e;exact hu i cs e
   . rw[List.getElem?_append_right (by omega)]at e;exact h2 cs (List.mem_of_getElem? e)
 . by_cases hi:i<es.length
   . rw[List.getElem?_append_left hi]at e1;have hj:j<sz:=by
      rw[<-hu i cs e1];exact fZ
     have hlt:=Cr hi hj;obtain⟨v,f1,f2,f3⟩:=h1 i cs j x e1 e2;exact⟨v,by rw[hc _ (by omega),List.getElem?_append_left (by omega)];exact f1,f2,f3⟩
   . rw[List.getElem?_append_right (by omega)]at e1;have hj:j<sz:=by
      rw[<-h2 cs (List.mem_of_getElem? e1)];exact fZ
     have hi2:i-es.length<es2.length:=by
      rcases Nat.lt_or_ge (i-es.length) es2.length with h | h
      . exact h
      . rw[List.getElem?_eq_none h]at e1;cases e1
     have hlt:=Cr hi2 hj;obtain⟨v,f1,f2,f3⟩:=h3 (i-es.length) cs j x e1 e2;have hidx:i*sz+j-olds.length=(i-es.length)*sz+j:=by
      rw[ho,Nat.sub_mul];have:es.length*sz<=i*sz:=Nat.mul_le_mul_right _ (by omega);omega
     have hge:es.length*sz<=i*sz:=Nat.mul_le_mul_right _ (by omega);have hsub:(i-es.length)*sz=i*sz-es.length*sz:=Nat.sub_mul _ _ _;refine⟨v,?_,f2,f3⟩;rw[hc _ (by omega),List.getElem?_append_right (by omega),hidx];exact f1
theorem o_append(hT:Cn P T){t t':TypeId}{x y:Operand}{i i' j:Ar}{u u':Nat}{b n m:Nat}{p:Bool}{sz:Nat}{es es2:List (List AV)}{q:AV}{R:List Nat}
 (ho:o.op= .call {callee:=.builtin .append,args:= #[x,y],argTypes:= #[t,t']}) (hx:Ak e x=some (.ref b n 0 n)) (hy:Ak e y=some q) (hi:T t=some i) (hk:i.k= .slice u) (hj:T u=some j) (hi':T t'=some i') (hk':i'.k= .slice u')
 (hb:h b=some (.row p sz es)) (hn:n=es.length) (hsz:sz=j.size) (hz:j.zero.length=j.size) (hp:0<j.size)
 (hsrc:SrcOf h q R es2) (hu2: ∀cs∈es2,cs.length=sz) (hpure:p=true->∀cs∈es2,cs.all AV.isPure1=true) (hm:m=es2.length)
 (hby:(es.length+es2.length)*j.bytes<=140737488355328) (hml:es.length+es2.length<=maxLen):
 OLoc P o e h (b::R) [(b,.row p sz (es++es2))] (some (.ref b (n+m) 0 (n+m))):=by
 intro H ι a w s Q hs g1 g2;have hx':Ak s.env x=some (.ref b n 0 n):=by rw[g1 x HC,hx]
 have hy':Ak s.env y=some q:=by rw[g1 y HC,hy]
 have hb':s.h b=some (.row p sz es):=by rw[g2 b (by simp),hb]
 have hsrc':=hsrc.agree (h':=s.h) (fun c hc=>g2 c (by simp[hc]));obtain⟨info,d,e1,e2,e3,e4,e5,e6⟩:=Aj (hT _ _ hi);obtain⟨infou,du,f1,f2,f3,f4,f5,f6⟩:=Aj (hT _ _ hj);obtain⟨info',d',e1',e2',e3',e4',e5',e6'⟩:=Aj (hT _ _ hi');have hd:=Bn (P:=P) (d:=d) (e3▸hk);subst hd;have hd':=Bn (P:=P) (d:=d') (e3'▸hk');subst hd';subst hsz;subst hn;subst hm;obtain⟨z,hz1,hz2⟩:=DM f6 hz hp;have hzl:z.cells.size=j.size:=by rw[<-hz];simpa using(Dl (H:=H) (ι:=AQ) hz2).1.symm
 obtain⟨r,hl,⟨r1,r2,r3,r4,r5,r6⟩,r7⟩:=hs.heap.obj b _ hb' rfl;have hvx:=Am hs hx';have hvy:=Am hs hy';generalize hva:a.eval x=va at hvx;generalize hvb:a.eval y=vb at hvy;have hexec: ∀(v:Value) (w':World),(Builtin.append_ #[t,t'] o.type #[va,vb]).run P w= .ok v w'->(execOp a.eval o).run P w= .ok (.value v) w':=fun v w' hrun=>by
  exact Wy
 obtain⟨news,hsrcw,hnews⟩:=KF hs.heap hsrc' hvy e2' hp hu2 w rfl;rw[<-f4]at hsrcw;have hnl:news.length=es2.length*j.size:=by rw[hsrcw.newsLen,f4]
 -- the new part, as the row wants it
 have hnewsp: ∀ι',LLe ι ι'->∀(i:Nat) (cs:List AV) (k:Nat) (y:AV),es2[i]?=some cs->cs[k]?=some y->∃v,news[i*j.size+k]?=some v/\Rel H (bif p then AQ else ι') y v/\y.cell1=true:=fun ι' hll i cs k y h1 h2=>by
  obtain⟨v,k1,k2,k3⟩:=hnews i cs k y h1 h2;refine⟨v,k1,?_,k3⟩
  cases p with
  | false=>exact k2.mono (KLe.refl _) hll
  | true=>exact CU (List.all_eq_true.1 (hpure rfl cs (List.mem_of_getElem? h1)) y (List.mem_of_getElem? h2)) k2
 by_cases h0:es2.length=0
 . -- nothing is appended
   have hes:es2=[]:=List.eq_nil_of_length_eq_zero h0;subst hes;have hnn:news=[]:=List.eq_nil_of_length_eq_zero (by simpa using hnl);subst hnn;have hfin: ∀(v:Value),(execOp a.eval o).run P w= .ok (.value v) w->Rel H ι (.ref b es.length 0 es.length) v->o.wp P a w (fun a' w'=>∃v H' ι',a'=a.put o.dst v/\(∀x,some (AV.ref b (es.length+([]:List (List AV)).length) 0 (es.length+([]:List (List AV)).length))=some x->Rel H' ι' x v)/\HeapRel H' ι' (hputs s.h [(b,.row p j.size (es++[]))]) w'/\Step H ι s.h w H' ι' (hputs s.h [(b,.row p j.size (es++[]))]) w') Q:=fun v hrun hrel=>by
    have hsame:hputs s.h [(b,.row p j.size (es++[]))]=s.h:=by
     funext c
     by_cases hc:c=b
     . subst hc;simp[hputs,Ap,hb']
     . simp[hputs,AF _ _ hc]
    unfold Oper.wp;rw[hrun,hsame];exact⟨v,H,ι,rfl,(fun x ex=>by have:=Option.some.inj ex;subst this;exact hrel),hs.heap,Step.refl _ _ _ _⟩
   by_cases hsol:r.csz=0
   . obtain⟨hl0,ad,rfl,hsp⟩:=hvx.ref_dry hl (by omega) hsol (by omega);rw[hl0];rw[hl0]at hvx;exact hl0▸hfin _ (hexec _ _ (HQ t t' o.type u infou e2 f1 ad vb hsrcw)) (by rw[hl0];exact hvx)
   . obtain⟨hlen,cap,rfl,hlc,hcap,hmax⟩:=hvx.ref_live hl (by omega) hsol;obtain⟨c,TT,w1,w2,w3⟩:=r6 hsol;simp only[Nat.zero_mul,Nat.zero_add]at hvx hcap hexec;have hrun:=D0 (P:=P) (w:=w) t t' o.type u infou e2 f1 r.rb es.length cap c TT w1 vb 0 [] hsrcw (by omega) (by rw[w2,f4];simp;omega);have hself:(w.setRow r.rb (c.toList.take (es.length*infou.size)++[]++c.toList.drop (es.length*infou.size+([]:List Value).length)).toArray)=w:=by
      simp only[List.append_nil,List.length_nil,Nat.add_zero,List.take_append_drop,Array.toArray_toList];exact w1.self
     rw[hself]at hrun;simp only[Nat.add_zero]at hrun;exact hfin _ (hexec _ _ hrun) hvx
 . -- something is
   have hpos:0<es2.length:=by omega
   have h63:((es.length+es2.length:Nat):Int)<=9223372036854775807:=by
    have:=hml;simp only[maxLen]at this;omega
   -- the new place, where there is no room
   have hgrow: ∀(base:Option Addr) (cap:Nat) (olds:List Value),va= .slice base es.length cap->(Builtin.firstCells infou.size es.length (.slice base es.length cap)).run P w.drew= .ok olds.toArray w.drew->olds.length=es.length*j.size->
    (∀ι',LLe ι ι'->∀(i:Nat) (cs:List AV) (k:Nat) (x:AV),es[i]?=some cs->cs[k]?=some x->∃v,olds[i*j.size+k]?=some v/\Rel H (bif p then AQ else ι') x v/\x.cell1=true)->cap<es.length+es2.length->
    o.wp P a w (fun a' w'=>∃v H' ι',a'=a.put o.dst v/\(∀x,some (AV.ref b (es.length+es2.length) 0 (es.length+es2.length))=some x->Rel H' ι' x v)/\HeapRel H' ι' (hputs s.h [(b,.row p j.size (es++es2))]) w'/\Step H ι s.h w H' ι' (hputs s.h [(b,.row p j.size (es++es2))]) w') Q:=by
    intro base cap olds hv hold hol holdr hlt;have hfit:Builtin.nextslicecap (es.length+es2.length) cap*infou.bytes<=281474976710656:=growslice_fits hlt (by rw[f5];exact hby);have hrun:=run_append_grow_src (P:=P) w t t' o.type u infou z e2 f1 hz1 base es.length cap olds hold vb es2.length news hsrcw hlt h63 hfit;have hge:=grownCap_ge w (es.length+es2.length) cap u;have hcm:grownCap w (es.length+es2.length) cap u<=maxLen:=grownCap_le_maxLen w _ cap u hml;generalize hcc:grownCap w (es.length+es2.length) cap u=nc at*;generalize hC:(olds++news).toArray++Builtin.zeroCells z.cells (nc-(es.length+es2.length))=C at*;have hCs:C.size=nc*j.size:=by
     rw[<-hC,Array.size_append,size_zeroCells,hzl];simp only[List.size_toArray,List.length_append,hol,hnl,<-Nat.add_mul];congr 1;omega
    have hCg: ∀k,k<olds.length+news.length->C[k]?=(olds++news)[k]?:=fun k hk=>by
     rw[<-hC,Array.getElem?_append_left (by simp;omega)]
     simp
    have hll:LLe ι (Dp ι b ⟨w.heap.size,j.size,es.length+es2.length,C.size⟩):=LLe.put fun r' hr'=>by
     rw[hl]at hr';cases hr';exact .inr ⟨by show r.n<es.length+es2.length;omega,by omega,r1.symm⟩
    have hrow:rowCells H (bif p then AQ else Dp ι b ⟨w.heap.size,j.size,es.length+es2.length,C.size⟩) j.size (es++es2) C:=
     Fc hol hnl hu2 r5 (holdr _ hll) (hnewsp _ hll) hCg
    have hsol':(⟨w.heap.size,j.size,es.length+es2.length,C.size⟩:Ent).solid:=by
     show C.size≠0;have:=Nat.mul_pos (show 0<nc by omega) hp;omega
    obtain⟨u1,u2⟩:=hs.heap.upd (w':=w.drew.alloc (.cells C u)) (o0:=.row p j.size es) (o':=.row p j.size (es++es2)) (r':=⟨w.heap.size,j.size,es.length+es2.length,C.size⟩) hb' rfl
     (.inr ⟨r,hl,rfl,.inr ⟨by show r.n<es.length+es2.length;omega,by omega,r1.symm⟩⟩) (fun _=>.inl (Nat.le_refl _))
     (fun rb hlt' _=>heap_alloc_old w.drew _ hlt') (by simp) rfl rfl
     ⟨rfl,hp,by simp,by rw[List.length_append];show(es.length+es2.length)*j.size<=C.size;rw[hCs];exact Nat.mul_le_mul_right _ hge,hrow.1,fun _=>⟨C,u,.plain (heap_alloc_new w.drew _),rfl,hrow⟩⟩
    have hex:=hexec _ _ (hv▸hrun);unfold Oper.wp;rw[hex];refine⟨_,H,_,rfl,(fun x ex=>?_),u1,u2⟩
    cases ex
    have:=Rel.refL (H:=H) (Dp ι b ⟨w.heap.size,j.size,es.length+es2.length,C.size⟩) b (es.length+es2.length) 0 (es.length+es2.length) nc _ (Bb _ _ _) rfl (by omega) hge (by simp[hCs]) hcm;simpa using this
   by_cases hsol:r.csz=0
   . obtain⟨hl0,ad,rfl,hsp⟩:=hvx.ref_dry hl (by omega) hsol (by omega);refine hgrow ad 0 [] (by rw[hl0]) ?_ (by simp[hl0]) (fun ι' _ i cs k x h1=>?_) (by omega)
     . rw[hl0]
       cases ad<;>simp[Builtin.firstCells,loadCells,loadCellsFrom]
     . rw[List.getElem?_eq_none (by omega)]at h1;cases h1
   . obtain⟨hlen,cap,hvv,hlc,hcap,hmax⟩:=hvx.ref_live hl (by omega) hsol;obtain⟨c,TT,w1,w2,w3⟩:=r6 hsol;simp only[Nat.zero_mul,Nat.zero_add]at hcap hvv;have hcs:c.size=cap*j.size:=by rw[w2,<-hcap,r1]
     have hold: ∀k,k<es.length*j.size->(c.toList.take (es.length*j.size))[k]?=c[k]?:=fun k hk=>by
      rw[List.getElem?_take_of_lt hk,Array.getElem?_toList]
     have holdl:(c.toList.take (es.length*j.size)).length=es.length*j.size:=by
      have:es.length*j.size<=c.size:=by rw[hcs];exact Nat.mul_le_mul_right _ hlc
      simp;omega
     have holdr: ∀ι',LLe ι ι'->∀(i:Nat) (cs:List AV) (k:Nat) (x:AV),es[i]?=some cs->cs[k]?=some x->∃v,(c.toList.take (es.length*j.size))[i*j.size+k]?=some v/\Rel H (bif p then AQ else ι') x v/\x.cell1=true:=fun ι' hll i cs k x h1 h2=>by
      obtain⟨v,k1,k2,k3⟩:=w3.2 i cs k x h1 h2;have hi:i<es.length:=by
       rcases Nat.lt_or_ge i es.length with h | h
       . exact h
       . rw[List.getElem?_eq_none h]at h1;cases h1
      have hkk:k<j.size:=by
       rw[<-r5 i cs h1];rcases Nat.lt_or_ge k cs.length with h | h
       . exact h
       . rw[List.getElem?_eq_none h]at h2;cases h2
      refine⟨v,by rw[hold _ (Cr hi hkk)];exact k1,?_,k3⟩
      cases p with
      | false=>exact k2.mono (KLe.refl _) hll
      | true=>exact k2
     by_cases hroom:es.length+es2.length<=cap
     . -- in place
       have hfit:es.length*infou.size+news.length<=c.size:=by rw[hnl,f4,hcs,<-Nat.add_mul];exact Nat.mul_le_mul_right _ hroom
       have hrun:=D0 (P:=P) (w:=w) t t' o.type u infou e2 f1 r.rb es.length cap c TT w1 vb es2.length news hsrcw hroom hfit;rw[f4]at hrun hfit;generalize hC:(c.toList.take (es.length*j.size)++news++c.toList.drop (es.length*j.size+news.length)).toArray=C at*;have hCs:C.size=c.size:=by rw[<-hC];simp;omega
       have hCg: ∀k,k<(c.toList.take (es.length*j.size)).length+news.length->C[k]?=(c.toList.take (es.length*j.size)++news)[k]?:=fun k hk=>by
        rw[<-hC];simp only[List.getElem?_toArray];rw[List.getElem?_append_left (by rw[List.length_append];exact hk)]
       have hll:LLe ι (Dp ι b ⟨r.rb,j.size,es.length+es2.length,r.csz⟩):=LLe.put fun r' hr'=>by
        rw[hl]at hr';cases hr';exact .inr ⟨by show r.n<es.length+es2.length;omega,by omega,r1.symm⟩
       have hrow:rowCells H (bif p then AQ else Dp ι b ⟨r.rb,j.size,es.length+es2.length,r.csz⟩) j.size (es++es2) C:=
        Fc holdl hnl hu2 r5 (holdr _ hll) (hnewsp _ hll) hCg
       obtain⟨u1,u2⟩:=hs.heap.upd (w':=w.setRow r.rb C) (o0:=.row p j.size es) (o':=.row p j.size (es++es2)) (r':=⟨r.rb,j.size,es.length+es2.length,r.csz⟩) hb' rfl
        (.inr ⟨r,hl,rfl,.inr ⟨by show r.n<es.length+es2.length;omega,by omega,r1.symm⟩⟩) (fun _=>.inr ⟨r,hl,rfl,hsol,rfl⟩)
        (fun rb hlt' hne=>setRow_other w r.rb rb _ (hne r hl rfl hsol)) (by simp) (KH _ _ _) (Jj _ _ _)
        ⟨rfl,hp,by simp,by rw[List.length_append];show(es.length+es2.length)*j.size<=r.csz;rw[<-w2,hcs];exact Nat.mul_le_mul_right _ hroom,hrow.1,fun _=>⟨C,TT,w1.setRow hCs,hCs.trans w2,hrow⟩⟩
       have hex:=hexec _ _ (hvv▸hrun);unfold Oper.wp;rw[hex];refine⟨_,H,_,rfl,(fun x ex=>?_),u1,u2⟩
       cases ex
       have:=Rel.refL (H:=H) (Dp ι b ⟨r.rb,j.size,es.length+es2.length,r.csz⟩) b (es.length+es2.length) 0 (es.length+es2.length) cap _ (Bb _ _ _) rfl (by omega) hroom (by simp[<-hcap,r1]) hmax;simpa using this
     . refine hgrow (some ⟨r.rb,0,none⟩) cap (c.toList.take (es.length*j.size)) hvv ?_ holdl holdr (by omega);rw[f4];refine run_firstCells_some (P:=P) w.drew j.size es.length ⟨r.rb,0,none⟩ es.length cap _ holdl (fun k v hk=>?_);have hkl:k<es.length*j.size:=by
        rcases Nat.lt_or_ge k (es.length*j.size)with h | h
        . exact h
        . rw[List.getElem?_eq_none (by rw[holdl];exact h)]at hk;cases hk
       rw[hold k hkl]at hk;rw[ER,World.cell?_drew,w1.cell,Nat.zero_add];exact hk
end
end Go.Proofs.YtbbfelelocccmaaGreat.Sv
namespace Go.Proofs.YtbbfelelocccmaaGreat.Sv
open Go
def GC(e:As)(d:Option Tmp)(r:Option AV):As:=
  match d,r with
  | some t,some x=>Aa e t x
  | some t,none=>NZ e t
  | none,_=>e
theorem Sim.put{H:Ax}{ι:Ba}{s:Ai}{a:Act}{w:World}(hs:Sim H ι s a w){H':Ax}{ι':Ba}{h':Ab}{w':World}(hr:HeapRel H' ι' h' w')(hst:Step H ι s.h w H' ι' h' w'){d:Option Tmp}{r:Option AV}{v:Value}(hv: ∀x,r=some x->Rel H' ι' x v)
 (hd: ∀t,d=some t->t<s.n):Sim H' ι' ⟨s.n,GC s.env d r,h'⟩ (a.put d v) w' where
 n:=by cases d<;>simp[Act.put,hs.n]
 d:=by cases d<;>exact hs.d
 env:=fun t x hx=>by
  have hold: ∀{y},s.env t=some y->∃v,a.tmps[t]?=some v/\Rel H' ι' y v:=fun hy=>by
   obtain⟨v,h1,h2⟩:=hs.env t _ hy;exact⟨v,h1,h2.mono hst.kle hst.lle⟩
  cases d with
  | none=>exact hold hx
  | some u=>
   by_cases htu:t=u
   . subst htu
     cases r with
     | none=>simp only[GC,Ld]at hx;cases hx
     | some y=>
      simp only[GC,Cm]at hx
      cases hx
      exact⟨v,by simp[Act.put,hs.n,hd t rfl],hv _ rfl⟩
   . have h1:(a.put (some u) v).tmps[t]?=a.tmps[t]?:=by simp[Act.put,Array.getElem?_setIfInBounds_ne (Ne.symm htu)]
     rw[h1]
     cases r with
     | none=>simp only[GC,Rg _ htu]at hx;exact hold hx
     | some y=>simp only[GC,DU _ _ htu]at hx;exact hold hx
 heap:=hr
theorem Sim.del{H:Ax}{ι:Ba}{s:Ai}{a:Act}{w:World}(hs:Sim H ι s a w){d:Option Tmp}(hd: ∀t,d=some t->t<s.n):Sim H ι ⟨s.n,GC s.env d none,s.h⟩ (a.put d undef) w:=
 hs.put hs.heap (Step.refl _ _ _ _) (fun x e=>by cases e) hd
def AOps(P:Program)(ops:Array Oper)(l:List Oper)(s:Ai)(K:Ai->Prop):Prop:=
  ∀H ι a w,Sim H ι s a w->wpList P ops (Post H ι s.h w (B4 K fun _ _=>False)) l a w
def AJ(ops:Array Oper)(o:Oper)(e:As):Option Bool:=
  match o.guard with
  | none=>some true
  | some (j,want)=>match(ops[j]?).bind (·.dst)with
    | some d=>match e d with
      | some (.bool b)=>some (b==want)
      | some (.tup [])=>some false
      | _=>none
    | none=>none
theorem C9{ops:Array Oper}{o:Oper}{H:Ax}{ι:Ba}{s:Ai}{a:Act}{w:World}(hs:Sim H ι s a w){b:Bool}(hg:AJ ops o s.env=some b):Region.wanted o (yielded ops a.tmps)=b:=by
 unfold AJ at hg;unfold Region.wanted
 cases e:o.guard with
 | none=>rw[e]at hg;simp at hg;simp[hg]
 | some jw=>
  obtain⟨j,want⟩:=jw;rw[e]at hg;simp only at hg |-;unfold yielded
  cases ed:(ops[j]?).bind (·.dst)with
  | none=>rw[ed]at hg;cases hg
  | some d=>
   rw[ed]at hg;simp only at hg;simp only[Option.bind_some]
   cases ee:s.env d with
   | none=>rw[ee]at hg;cases hg
   | some x=>
    obtain⟨v,h1,h2⟩:=hs.env d x ee;rw[ee]at hg
    cases x with
    | bool c=>
     simp only[Option.some.injEq]at hg;rw[h1,h2.bool_inv];subst hg
     cases c<;>cases want<;>rfl
    | tup vs=>
     cases vs with
     | nil=>
      simp only[Option.some.injEq]at hg;obtain⟨us,hus,hl,_⟩:=h2.tup_inv;rw[h1,hus];subst hg
      cases want<;>rfl
     | cons=>cases hg
    | _=>cases hg
section
variable {P : Program} {ops : Array Oper} {s : Ai} {K : Ai -> Prop} {o : Oper} {rest : List Oper}
theorem AOps.nil(h:K s):AOps P ops [] s K:=fun H ι a w hs=>⟨s,H,ι,h,hs,Step.refl _ _ _ _⟩
theorem AOps.step'{R:List Nat}{W:List (Nat×AObj)}{r:Option AV}(hg:AJ ops o s.env=some true)(ho:OLoc P o s.env s.h R W r)(hd: ∀t,o.dst=some t->t<s.n)(h:AOps P ops rest ⟨s.n,GC s.env o.dst r,hputs s.h W⟩ K):
 AOps P ops (o::rest) s K:=by
 intro H ι a w hs;unfold wpList;rw[C9 hs hg];simp only[if_true];refine .inl (Oper.wp_mono (fun a' w' hx=>?_) (ho H ι a w s _ hs (fun _ _=>rfl) (fun _ _=>rfl)));obtain⟨v,H',ι',rfl,h1,h2,h3⟩:=hx;have hs':=hs.put h2 h3 h1 hd;have:=h H' ι' _ w' hs'
 -- the post, from the earlier world on
 have key: ∀(l:List Oper) (a1:Act) (w1:World),wpList P ops (Post H' ι' (hputs s.h W) w' (B4 K fun _ _=>False)) l a1 w1->wpList P ops (Post H ι s.h w (B4 K fun _ _=>False)) l a1 w1:=by
  have hpost: ∀e a2 w2,Post H' ι' (hputs s.h W) w' (B4 K fun _ _=>False) e a2 w2->Post H ι s.h w (B4 K fun _ _=>False) e a2 w2:=fun e a2 w2 hp=>Post.step hs.heap h2 h3 hp
  exact n5
 exact key _ _ _ this
theorem AOps.skip(hg:AJ ops o s.env=some false)(hd: ∀t,o.dst=some t->t<s.n)(h:AOps P ops rest ⟨s.n,GC s.env o.dst none,s.h⟩ K):AOps P ops (o::rest) s K:=by
 intro H ι a w hs;unfold wpList;rw[C9 hs hg];simp only[Bool.false_eq_true,if_false];exact h H ι _ w (hs.del hd)
theorem Vg(hg:AJ ops o s.env=some false)(hd: ∀t,o.dst=some t->t<s.n)(h:AOps P ops rest ⟨s.n,GC s.env o.dst (some (.tup [])),s.h⟩ K):AOps P ops (o::rest) s K:=by
 intro H ι a w hs;unfold wpList;rw[C9 hs hg];simp only[Bool.false_eq_true,if_false];exact h H ι _ w (hs.put hs.heap (Step.refl _ _ _ _) (fun x e=>by cases e;exact .tup _ _ _ rfl (fun j x v h=>by simp at h)) hd)
theorem AGo.region{id:Nat}{ops:Array Oper}{Q:Exit->Ai->Prop}(h:AOps P ops ops.toList s (fun s'=>Q .normal s')):AGo P (.region id ops false) s Q:=fun H ι a w hs=>
 wp_region_list (by
  have:=h H ι a w hs;have hpost: ∀e a2 w2,Post H ι s.h w (B4 (fun s'=>Q .normal s') fun _ _=>False) e a2 w2->Post H ι s.h w Q e a2 w2:=fun e a2 w2 hp=>by
   obtain⟨s',H',ι',q,r⟩:=hp
   cases e<;>first | exact⟨s',H',ι',q,r⟩ | exact q.elim
  revert this
  generalize ops.toList=l;generalize a=a1
  suffices hh: ∀(l:List Oper) (a1:Act) (w1:World),wpList P ops (Post H ι s.h w (B4 (fun s'=>Q .normal s') fun _ _=>False)) l a1 w1->wpList P ops (Post H ι s.h w Q) l a1 w1 from hh l a1 w
  intro l
  induction l with
  | nil=>exact fun a1 w1 hp=>hpost _ _ _ hp
  | cons o' l ih=>
   intro a1 w1 hp;unfold wpList at hp |-
   by_cases hw:Region.wanted o' (yielded ops a1.tmps)=true
   . rw[if_pos hw]at hp |-;rcases hp with hp |⟨hp1,a2,w2,hp2⟩
     . refine .inl ?_;have hp':=Oper.wp_mono (fun a2 w2=>ih a2 w2) hp;clear hp;unfold Oper.wp at hp' |-;generalize(execOp a1.eval o').run P w1=res at hp' |-;exact jH
     . exact .inr ⟨hp1,a2,w2,hpost _ _ _ hp2⟩
   . rw[if_neg hw]at hp |-;exact ih _ _ hp)
end
end Go.Proofs.YtbbfelelocccmaaGreat.Sv
namespace Go.Proofs.YtbbfelelocccmaaGreat.Sv
open Go
def RelAll(H:Ax)(ι:Ba)(xs:List AV)(vs:Array Value):Prop:=xs.length=vs.size/\∀(j:Nat) (x:AV) (v:Value),xs[j]?=some x->vs[j]?=some v->Rel H ι x v
def ACall(P:Program)(f:FuncId)(args:List AV)(h:Ab)(R:AV->Ab->Prop):Prop:=
  ∀(H:Ax) (ι:Ba) (w:World) (vs:Array Value),RelAll H ι args vs->HeapRel H ι h w->
    Calls P f vs w (fun e w'=>∃v r h' H' ι',e= .returned v/\R r h'/\Rel H' ι' r v/\HeapRel H' ι' h' w'/\Step H ι h w H' ι' h' w')
structure Grow(H:Ax)(w:World)(H':Ax)(w':World):Prop where
  size:w.heap.size<=w'.heap.size
  os:w'.os=w.os
  out:w'.output=w.output
  keep: ∀rb,rb<w.heap.size->w'.heap[rb]?=w.heap[rb]?
  kle:KLe H H'
  knew: ∀b,H' b≠none->H b≠none\/w.heap.size<=b
  know: ∀b c,H' b=some c->∃T fr,w'.heap[b]?=some (.cells c T fr)
structure Rv(H:Ax)(w:World):Prop where
  know: ∀b c,H b=some c->∃T fr,w.heap[b]?=some (.cells c T fr)
  glob:GlobOk H
def APure(P:Program)(f:FuncId)(args:List AV)(R:AV->Prop):Prop:=
  ∀(H:Ax) (w:World) (vs:Array Value),RelAll H AQ args vs->Rv H w->
    Calls P f vs w (fun e w'=>∃v r H',e= .returned v/\R r/\Rel H' AQ r v/\Grow H w H' w')
theorem APure.mono{P:Program}{f:FuncId}{args:List AV}{R R':AV->Prop}(h:APure P f args R)(hr: ∀r,R r->R' r):APure P f args R':=
 fun H w vs h1 h2=>(h H w vs h1 h2).mono fun e w' ⟨v,r,H',e1,e2,e3⟩=>⟨v,r,H',e1,hr _ e2,e3⟩
theorem ACall.mono{P:Program}{f:FuncId}{args:List AV}{h:Ab}{R R':AV->Ab->Prop}(hc:ACall P f args h R)(hr: ∀r h',R r h'->R' r h'):ACall P f args h R':=
 fun H ι w vs h1 h2=>(hc H ι w vs h1 h2).mono fun e w' ⟨v,r,h',H',ι',e1,e2,e3⟩=>⟨v,r,h',H',ι',e1,hr _ _ e2,e3⟩
def GE(args:List AV):As:=fun t=>args[t]?
def fu(T:Nat->Option Ar)(s:Ai):ResultVar->AV->Prop
  | .tmp t,x=>s.env t=some x
  | .cell a t,x=>∃p i R cs,s.env a=some p/\T t=some i/\PtsTo s.h p R cs/\H4 i cs=some x
def Gy(T:Nat->Option Ar)(s:Ai):List ResultVar->List AV->Prop
  | [],[]=>True
  | r::rs,x::xs=>fu T s r x/\Gy T s rs xs
  | _,_=>False
def Fh:List AV->AV
  | [x]=>x
  | xs=>.tup xs
section
variable {P : Program} {T : Nat -> Option Ar}
def KN(tmps:Array Value):ResultVar->Sem Value
  | .tmp t=>pure (tmps.getD t undef)
  | .cell c t=>do loadVar t (<-asAddr (tmps.getD c undef))
theorem Jn(fn:Func)(tmps:Array Value):results fn tmps=(do
 let vs<-fn.results.mapM (KN tmps)
 pure (if h:vs.size=1 then vs[0]else .tuple vs)):=by
 unfold results;congr 1
theorem W7(hT:Cn P T){H:Ax}{ι:Ba}{s:Ai}{a:Act}{w:World}(hs:Sim H ι s a w){r:ResultVar}{x:AV}(h:fu T s r x):
 ∃v,Rel H ι x v/\(KN a.tmps r).run P w= .ok v w:=by
 cases r with
 | tmp t=>
  obtain⟨v,h1,h2⟩:=hs.env t x h;exact⟨v,h2,by simp[KN,h1]⟩
 | cell c t=>
  obtain⟨p,i,R,cs,h1,h2,h3,h4⟩:=h;obtain⟨v,e1,e2⟩:=hs.env c p h1;obtain⟨b,off,rfl,hc⟩:=h3.cells hs.heap e2;obtain⟨v',hr,hrun⟩:=Lt (P:=P) (hT _ _ h2) hc h4;exact⟨v',hr,by simp[KN,e1,asAddr,hrun]⟩
theorem MO(hT:Cn P T){H:Ax}{ι:Ba}{s:Ai}{a:Act}{w:World}(hs:Sim H ι s a w): ∀{rs:List ResultVar} {xs:List AV},Gy T s rs xs->
 ∃vs:List Value,xs.length=vs.length/\(∀(j:Nat) (x:AV) (v:Value),xs[j]?=some x->vs[j]?=some v->Rel H ι x v)/\
  (rs.mapM (KN a.tmps)).run P w= .ok vs w
 | [],[],_=>⟨[],rfl,fun j x v h=>by simp at h,by simp⟩
 | r::rs,x::xs,h=>by
  obtain⟨h1,h2⟩:=h;obtain⟨v,e1,e2⟩:=W7 hT hs h1;obtain⟨vs,f1,f2,f3⟩:=MO hT hs h2;refine⟨v::vs,by simp[f1],fun j y u g1 g2=>?_,?_⟩
  . cases j with
    | zero=>simp at g1 g2;subst g1;subst g2;exact e1
    | succ j=>simp at g1 g2;exact f2 j y u g1 g2
  . rw[List.mapM_cons,Sem.run_bind];rw[e2];simp only[Result.andThen_ok,Sem.run_bind,f3,Sem.run_pure]
 | [],_::_,h=>h.elim
 | _::_,[],h=>h.elim
theorem Ls(hT:Cn P T){H:Ax}{ι:Ba}{s:Ai}{a:Act}{w:World}(hs:Sim H ι s a w){fn:Func}{xs:List AV}(h:Gy T s fn.results.toList xs):
 ∃v,Rel H ι (Fh xs) v/\(results fn a.tmps).run P w= .ok v w:=by
 obtain⟨vs,h1,h2,h3⟩:=MO hT hs h;have hm:(fn.results.mapM (KN a.tmps)).run P w= .ok vs.toArray w:=by
  rw[Array.mapM_eq_mapM_toList,Sem.run_map,h3];rfl
 cases xs with
 | nil=>
  have hv:vs=[]:=List.eq_nil_of_length_eq_zero (by simpa using h1.symm);subst hv;refine⟨.tuple #[],.tup _ _ _ rfl (fun j x v h=>by simp at h),?_⟩;rw[Jn,Sem.run_bind,hm];rfl
 | cons x xs=>
  cases xs with
  | nil=>
   cases vs with
   | nil=>simp at h1
   | cons v vs=>
    have hv:vs=[]:=List.eq_nil_of_length_eq_zero (by simpa using h1.symm);subst hv;refine⟨v,h2 0 x v (by simp) (by simp),?_⟩;rw[Jn,Sem.run_bind,hm];rfl
  | cons y ys=>
   refine⟨.tuple vs.toArray,.tup _ _ _ (by simpa using h1) (fun j x v g1 g2=>h2 j x v g1 (by simpa using g2)),?_⟩;rw[Jn,Sem.run_bind,hm];have hsz: ¬vs.length=1:=by simp at h1;omega
   simp[hsz]
def n3(T:Nat->Option Ar)(fn:Func)(R:AV->Ab->Prop):Exit->Ai->Prop
  | .normal,s | .ret,s=>∃xs,Gy T s fn.results.toList xs/\R (Fh xs) s.h
  | _,_=>False
theorem ACall.of_body(hT:Cn P T){f:FuncId}{fn:Func}{c:Code}{args:List AV}{h:Ab}{R:AV->Ab->Prop}(hf:P.funcs[f]?=some fn)(hb:fn.body=some c){n:Nat}(hn:args.length+(fn.ntmps-args.length)=n)
 (hg:AGo P c ⟨n,GE args,h⟩ (n3 T fn R)):ACall P f args h R:=by
 intro H ι w vs ha hr;refine calls_of_wp hf hb ?_;have hs:Sim H ι ⟨n,GE args,h⟩ {tmps:=vs++Array.replicate (fn.ntmps-vs.size) undef,defers:=[]} w:=by
  exact jF
 refine wp_mono (hg H ι _ w hs) fun e a' w' hp=>?_
 obtain⟨s',H',ι',q,r,t⟩:=hp;have key:(∃xs,Gy T s' fn.results.toList xs/\R (Fh xs) s'.h)->a'.defers=[]/\∃v,(results fn a'.tmps).run P w'= .ok v w'/\∃v' r h' H' ι',Ending.returned v= .returned v'/\R r h'/\Rel H' ι' r v'/\HeapRel H' ι' h' w'/\Step H ι h w H' ι' h' w':=fun⟨xs,h1,h2⟩=>by
  obtain⟨v,e1,e2⟩:=Ls hT r h1;exact⟨r.d,v,e2,v,_,_,H',ι',rfl,h2,e1,r.heap,t⟩
 cases e with
 | normal=>exact key q
 | ret=>exact key q
 | _=>exact q.elim
theorem LI{H:Ax}{w:World}(h:Rv H w):HeapRel H AQ hNew w where
 know:=h.know
 glob:=h.glob
 free:=fun _ _=>rfl
 obj:=fun b o e ea=>by cases e;cases ea
 inj:=fun b b' o o' r r' e ea=>by cases e;cases ea
theorem APure.of_body(hT:Cn P T){f:FuncId}{fn:Func}{c:Code}{args:List AV}{R:AV->Prop}(hf:P.funcs[f]?=some fn)(hb:fn.body=some c){n:Nat}(hn:args.length+(fn.ntmps-args.length)=n)
 (hg:AGo P c ⟨n,GE args,hNew⟩ (n3 T fn fun r _=>R r/\r.isPure=true)):APure P f args R:=by
 intro H w vs ha hk;refine(ACall.of_body hT hf hb hn hg H AQ w vs ha (LI hk)).mono fun e w' hx=>?_
 obtain⟨v,r,h',H',ι',rfl,⟨h1,h2⟩,h3,h4,h5⟩:=hx;have hno: ∀rb,¬Dg hNew AQ rb:=fun rb ho=>by obtain⟨b,o,r,e1,e2,e3,_⟩:=ho;cases e3
 exact⟨v,r,H',rfl,h1,FR h2 h3,⟨h5.size,h5.os,h5.out,fun rb hlt=>h5.keep rb hlt (hno rb),h5.kle,fun b hb=>(h5.knew b hb).imp id fun h=>h.resolve_right (hno b),h4.know⟩⟩
theorem BO{w:World}{f:FuncId}{fn:Func}(hf:P.funcs[f]?=some fn)(hn:(fn.name== "runtime.NumGoroutine")=false)(hb:fn.body.isSome=true)(args:Array Value):(callFunc f args).run P w= .ok (.enter f args) w:=by
 have hb':fn.body.isNone=false:=by cases e:fn.body<;>simp[e]at hb |-
 simp only[callFunc,Sem.run_bind,run_program,Result.andThen_ok,hf,hn,Bool.false_eq_true,if_false,hb',Sem.run_pure]
variable {o : Oper} {e : As} {h : Ab}
def AR(e:As):List Operand->Option (List AV)
  | []=>some []
  | x::xs=>match Ak e x,AR e xs with
    | some y,some ys=>some (y::ys)
    | _,_=>none
theorem LB{H:Ax}{ι:Ba}{s:Ai}{a:Act}{w:World}(hs:Sim H ι s a w): ∀{l:List Operand} {xs:List AV},AR s.env l=some xs->xs.length=l.length/\∀(j:Nat) (x:AV) (v:Value),xs[j]?=some x->(l.map a.eval)[j]?=some v->Rel H ι x v
 | [],xs,h=>by simp[AR]at h;subst h;exact⟨rfl,fun j x v h=>by simp at h⟩
 | y::l,xs,h=>by
  unfold AR at h;split at h
  . rename_i x ys h1 h2;simp at h;subst h;obtain⟨i1,i2⟩:=LB hs h2;refine⟨by simp[i1],fun j z v g1 g2=>?_⟩
    cases j with
    | zero=>simp at g1 g2;subst g1;subst g2;exact Am hs h1
    | succ j=>simp only[List.getElem?_cons_succ,List.map_cons]at g1 g2;exact i2 j z v g1 g2
  . cases h
theorem EY{e e':As}: ∀{l:List Operand},(∀x∈l,Ak e' x=Ak e x)->AR e' l=AR e l
 | [],_=>rfl
 | x::l,h=>by
  unfold AR;rw[h x (by simp),EY (l:=l) (fun y hy=>h y (by simp[hy]))]
theorem B3{H:Ax}{ι:Ba}{s:Ai}{a:Act}{w:World}(hs:Sim H ι s a w){l:Array Operand}{xs:List AV}(h:AR s.env l.toList=some xs):RelAll H ι xs (l.map a.eval):=by
 obtain⟨h1,h2⟩:=LB hs h;exact⟨by simp[h1],fun j x v g1 g2=>h2 j x v g1 (by simpa using g2)⟩
theorem K2{H:Ax}{ι:Ba}{w:World}(hr:HeapRel H ι h w):Rv H w:=⟨hr.know,hr.glob⟩
theorem HeapRel.grown{H H':Ax}{ι:Ba}{w w':World}(hr:HeapRel H ι h w)(g:Grow H w H' w'):HeapRel H' ι h w'/\Step H ι h w H' ι h w':=by
 refine⟨⟨g.know,hr.free,fun b o h1 h2=>?_,hr.inj,hr.glob.mono g.kle⟩,⟨g.size,g.os,g.out,fun rb hlt _=>g.keep rb hlt,g.kle,fun b hb=>(g.knew b hb).imp id .inl,LLe.refl _,fun _ _=>rfl,fun _ _ h _=>.inl h,fun _ h=>h⟩⟩;obtain⟨r,e1,e2,e3⟩:=hr.obj b o h1 h2;refine⟨r,e1,e2.mono g.kle (LLe.refl _) (fun hsol=>g.keep _ (hr.lt ⟨b,o,r,h1,h2,e1,hsol,rfl⟩)),fun hsol=>?_⟩;have hlt:=hr.lt ⟨b,o,r,h1,h2,e1,hsol,rfl⟩
 cases hh:H' r.rb with
 | none=>rfl
 | some c=>
  rcases g.knew r.rb (by rw[hh];simp)with h | h
  . exact absurd (e3 hsol) h
  . omega
theorem ae{f:FuncId}{fn:Func}{args:Array Operand}{tys:Array TypeId}{xs:List AV}{r:AV}(ho:o.op= .call {callee:=.value (.func f),args:=args,argTypes:=tys})(hf:P.funcs[f]?=some fn)(hn:(fn.name== "runtime.NumGoroutine")=false)(hb:fn.body.isSome=true)
 (hx:AR e args.toList=some xs) (hp:xs.all AV.isPure=true) (hc:APure P f xs (fun r'=>r'=r)):OLoc P o e h [] [] (some r):=by
 intro H ι a w s Q hs g1 g2;have hx':AR s.env args.toList=some xs:=by
  exact YI
 have hra:=B3 hs hx';have hra':RelAll H AQ xs (args.map a.eval):=⟨hra.1,fun j x v h1 h2=>FR (List.all_eq_true.1 hp x (List.mem_of_getElem? h1)) (hra.2 j x v h1 h2)⟩;have hcall:=hc H w _ hra' (K2 hs.heap);have hexec:(execOp a.eval o).run P w= .ok (.enter f (args.map a.eval)) w:=by
  simp[execOp,ho,resolve,Act.eval,Deferred.ofValue,invoke,BO hf hn hb]
 unfold Oper.wp;rw[hexec];refine hcall.mono fun en w' hh=>?_
 obtain⟨v,r',H',rfl,rfl,k1,k2⟩:=hh;obtain⟨u1,u2⟩:=hs.heap.grown k2;exact⟨v,H',ι,rfl,(fun x ex=>by cases ex;exact k1.mono (KLe.refl _) (LLe.none _)),u1,u2⟩
end
end Go.Proofs.YtbbfelelocccmaaGreat.Sv
namespace Go.Proofs.YtbbfelelocccmaaGreat.Sv
open Go
structure TW(V:Type) where
  f:(Nat->V)->Nat->V
  wr:Nat->Bool
  out: ∀g x,wr x=false->f g x=g x
  inn: ∀g g' x,wr x=true->f g x=f g' x
section
variable {V : Type}
def BW(L:Nat->Bool):List (TW V)->Nat->(Nat->V)->Nat->V
  | [],_,g=>g
  | u::l,k,g=>BW L l (k+1) (if L k then u.f g else g)
theorem Gj{L L':Nat->Bool}{x:Nat}: ∀{l:List (TW V)} {k:Nat} {g g':Nat->V},g x=g' x->(∀i u,l[i]?=some u->u.wr x=true->L (k+i)=L' (k+i))->BW L l k g x=BW L' l k g' x
 | [],_,_,_,hg,_=>hg
 | u::l,k,g,g',hg,h=>by
  refine Gj (l:=l) ?_ (fun i v hv hw=>by have:=h (i+1) v (by simpa using hv) hw;rwa[Nat.add_right_comm k 1 i,Nat.add_assoc k i 1])
  cases hw:u.wr x with
  | true=>
   have h0:=h 0 u rfl hw;rw[Nat.add_zero]at h0;rw[<-h0]
   cases L k with
   | true=>exact u.inn _ _ _ hw
   | false=>exact hg
  | false=>
   have h1:(if L k=true then u.f g else g) x=g x:=by split;exact u.out _ _ hw;rfl
   have h2:(if L' k=true then u.f g' else g') x=g' x:=by split;exact u.out _ _ hw;rfl
   rw[h1,h2,hg]
theorem EI{L:Nat->Bool}{x:Nat}: ∀{l:List (TW V)} {k:Nat} {g:Nat->V},(∀i u,l[i]?=some u->u.wr x=true->L (k+i)=false)->BW L l k g x=g x
 | [],_,_,_=>rfl
 | u::l,k,g,h=>by
  have ih:=EI (L:=L) (x:=x) (l:=l) (k:=k+1) (g:=if L k then u.f g else g) (fun i v hv hw=>by have:=h (i+1) v (by simpa using hv) hw;rwa[Nat.add_right_comm k 1 i,Nat.add_assoc k i 1]);show BW L l (k+1) _ x=g x;rw[ih]
  cases hw:u.wr x with
  | true=>
   have h0:=h 0 u rfl hw;rw[Nat.add_zero]at h0;rw[h0];rfl
  | false=>split;exact u.out _ _ hw;rfl
theorem Nu{L:Nat->Bool}{x:Nat}: ∀{l:List (TW V)} {k:Nat} {g:Nat->V} {j:Nat} {u:TW V},l[j]?=some u->u.wr x=true->L (k+j)=true->(∀i v,j<i->l[i]?=some v->v.wr x=true->L (k+i)=false)->∀g',BW L l k g x=u.f g' x
 | [],_,_,j,u,h,_,_,_,_=>by simp at h
 | v::l,k,g,0,u,h,hw,hL,hno,g'=>by
  simp at h;subst h;show BW L l (k+1) _ x=_;rw[EI (fun i u hu hw'=>by have:=hno (i+1) u (by omega) (by simpa using hu) hw';rwa[Nat.add_right_comm k 1 i,Nat.add_assoc k i 1])];rw[Nat.add_zero]at hL;rw[hL];exact v.inn _ _ _ hw
 | v::l,k,g,j+1,u,h,hw,hL,hno,g'=>by
  refine Nu (l:=l) (k:=k+1) (j:=j) (by simpa using h) hw (by rwa[Nat.add_right_comm k 1 j,Nat.add_assoc k j 1]) (fun i u' hi hu hw'=>?_) g';have:=hno (i+1) u' (by omega) (by simpa using hu) hw';rwa[Nat.add_right_comm k 1 i,Nat.add_assoc k i 1]
theorem Ps{L L':Nat->Bool}{l:List (TW V)}{g:Nat->V}{j:Nat}{u:TW V}(hj:l[j]?=some u)(hL: ∀i,L' i=(i==j||L i))(hno: ∀x,u.wr x=true->∀i v,j<i->l[i]?=some v->v.wr x=true->L i=false):
 BW L' l 0 g=u.f (BW L l 0 g):=by
 funext x
 cases hw:u.wr x with
 | true=>
  refine Nu hj hw (by rw[Nat.zero_add,hL];simp) (fun i v hi hv hw'=>?_) _;rw[Nat.zero_add,hL,hno x hw i v hi hv hw'];have:i≠j:=by omega
  simp[this]
 | false=>
  rw[u.out _ _ hw];refine Gj rfl fun i v hv hw'=>?_
  rw[Nat.zero_add,hL];have:i≠j:=fun e=>by subst e;rw[hj]at hv;cases hv;rw[hw]at hw';cases hw'
  simp[this]
end
def Ho(d:Option Tmp)(r:Option AV):TW (Option AV) where
  f:=fun e=>GC e d r
  wr:=fun x=>d==some x
  out:=fun g x h=>by
    cases d with
    | none=>rfl
    | some t=>
      have hne:x≠t:=fun e=>by subst e;simp at h
      cases r with
      | none=>exact Rg _ hne
      | some v=>exact DU _ _ hne
  inn:=fun g g' x h=>by
    have:d=some x:=by simpa using h
    subst this
    cases r with
    | none=>simp[GC,Ld]
    | some v=>simp[GC,Cm]
theorem PK: ∀(W:List (Nat×AObj)) (h:Ab) (x:Nat),(W.map (·.1)).contains x=false->hputs h W x=h x
 | [],_,_,_=>rfl
 |(b,o)::W,h,x,hx=>by
  simp only[List.map_cons,List.contains_cons,Bool.or_eq_false_iff,beq_eq_false_iff_ne]at hx;show hputs (hput h b o) W x=h x;rw[PK W _ x hx.2,AF _ _ hx.1]
theorem PM: ∀(W:List (Nat×AObj)) (h h':Ab) (x:Nat),(h x=h' x\/(W.map (·.1)).contains x=true)->hputs h W x=hputs h' W x
 | [],h,h',x,hx=>by rcases hx with hx | hx;exact hx;simp at hx
 |(b,o)::W,h,h',x,hx=>by
  show hputs (hput h b o) W x=hputs (hput h' b o) W x;refine PM W _ _ x ?_
  by_cases hb:x=b
  . subst hb;left;rw[Ap,Ap]
  . rw[AF _ _ hb,AF _ _ hb];rcases hx with hx | hx
    . exact .inl hx
    . right;simp only[List.map_cons,List.contains_cons,Bool.or_eq_true,beq_iff_eq,hb,false_or]at hx;exact hx
def heapUpd(W:List (Nat×AObj)):TW (Option AObj) where
  f:=fun h=>hputs h W
  wr:=fun x=>(W.map (·.1)).contains x
  out:=fun g x h=>PK W g x h
  inn:=fun g g' x h=>PM W g g' x (.inr h)
structure OpRec where
  e:As
  h:Ab
  run:Bool
  R:List Nat
  W:List (Nat×AObj)
  r:Option AV
def OpRec.sets(c:OpRec):List Nat×List Nat:=(c.R,c.W.map (·.1))
def nT(I:Ab->Prop)(P:Program)(o:Oper)(e:As)(h:Ab)(R:List Nat)(W:List (Nat×AObj))(r:Option AV):Prop:=
  ∀(H:Ax) (ι:Ba) (a:Act) (w:World) (s:Ai) (Q:Exit->Act->World->Prop),Sim H ι s a w->
    (∀x∈o.op.operands,Ak s.env x=Ak e x)->(∀b∈R,s.h b=h b)->I s.h->
    o.wp P a w (fun a' w'=>∃v H' ι',a'=a.put o.dst v/\(∀x,r=some x->Rel H' ι' x v)/\HeapRel H' ι' (hputs s.h W) w'/\Step H ι s.h w H' ι' (hputs s.h W) w') Q
def OpRec.ok(I:Ab->Prop)(P:Program)(ops:Array Oper)(n:Nat)(o:Oper)(c:OpRec):Prop:=
  AJ ops o c.e=some c.run/\(∀t,o.dst=some t->t<n)/\(c.run=true->nT I P o c.e c.h c.R c.W c.r/\∀h,I h->I (hputs h c.W))/\(c.run=false->c.W=[]/\(c.r=none\/c.r=some (.tup [])))
def DChain(I:Ab->Prop)(P:Program)(ops:Array Oper)(n:Nat):List Oper->As->Ab->List OpRec->As->Ab->Prop
  | [],e,h,[],e',h'=>e'=e/\h'=h
  | o::l,e,h,c::cs,e',h'=>c.e=e/\c.h=h/\c.ok I P ops n o/\DChain I P ops n l (GC e o.dst c.r) (hputs h c.W) cs e' h'
  | _,_,_,_,_,_=>False
def Co(x y:List Nat×List Nat):Bool:=x.2.all (fun b=> !y.1.contains b&& !y.2.contains b)&&y.2.all (fun b=> !x.1.contains b)
def eD(o:Oper)(i:Nat):Bool:=o.after.any fun e=>Region.binds .any e&&e.on==i
def Md(ops:Array Oper):Nat->Oper->Nat->Bool
  | 0,o,i=>eD o i
  | f+1,o,i=>o.after.any fun e=>Region.binds .any e&&(e.on==i||(Nat.blt i e.on&&match ops[e.on]? with | some o'=>Md ops f o' i | none=>false))
theorem hasPath_spec{ops:Array Oper}{i:Nat}{U:Nat->Prop}(hU: ∀j o,U j->ops[j]?=some o->∀e∈o.after,Region.binds .any e=true->U e.on): ∀(f:Nat) (o:Oper),Md ops f o i=true->(∀e∈o.after,Region.binds .any e=true->U e.on)->U i
 | 0,o,h,ho=>by
  obtain⟨e,he,hb⟩:=Array.any_eq_true'.1 h;simp only[Bool.and_eq_true,beq_iff_eq]at hb;exact hb.2▸ho e he hb.1
 | f+1,o,h,ho=>by
  obtain⟨e,he,hb⟩:=Array.any_eq_true'.1 h;simp only[Bool.and_eq_true,Bool.or_eq_true,beq_iff_eq]at hb;obtain⟨h1,h2 |⟨_,h2⟩⟩:=hb
  . exact h2▸ho e he h1
  . cases ho':ops[e.on]? with
    | none=>rw[ho']at h2;cases h2
    | some o'=>
     rw[ho']at h2;exact hasPath_spec hU f o' h2 (hU e.on o' (ho e he h1) ho')
def cA(ops:Array Oper)(sets:List (List Nat×List Nat)):Bool:=
  (List.range ops.size).all fun j=>match ops[j]?,sets[j]? with
    | some oj,some sj=>oj.after.all (fun e=> !Region.binds .any e||Nat.blt e.on j)&&(List.range j).all fun i=>match ops[i]?,sets[i]? with
      | some oi,some si=>Md ops 24 oj i||(oi.apart ops oj&&Co si sj)
      | _,_=>false
    | _,_=>false
theorem Ob{ops:Array Oper}{sets:List (List Nat×List Nat)}(h:cA ops sets=true){j:Nat}{oj:Oper}{sj:List Nat×List Nat}(hj:ops[j]?=some oj)(hs:sets[j]?=some sj):
 (∀e∈oj.after,Region.binds .any e=true->e.on<j)/\∀i oi si,i<j->ops[i]?=some oi->sets[i]?=some si->Md ops 24 oj i=true\/(oi.apart ops oj=true/\Co si sj=true):=by
 have hlt:j<ops.size:=(Array.getElem?_eq_some_iff.1 hj).1;have h1:=List.all_eq_true.1 h j (List.mem_range.2 hlt);simp only[hj,hs,Bool.and_eq_true]at h1;refine⟨fun e he hb=>?_,fun i oi si hij hi hsi=>?_⟩
 . have:=Array.all_eq_true_iff_forall_mem.1 h1.1 e he;simp only[hb,Bool.not_true,Bool.false_or]at this;rwa[Nat.blt_eq]at this
 . have:=List.all_eq_true.1 h1.2 i (List.mem_range.2 hij);simp only[hi,hsi,Bool.or_eq_true,Bool.and_eq_true]at this;rcases this with h2 | h2
   . exact .inl h2
   . exact .inr h2
section
variable {I : Ab -> Prop} {P : Program} {ops : Array Oper} {n : Nat}
theorem DChain.length: ∀{l:List Oper} {e:As} {h:Ab} {cs:List OpRec} {e':As} {h':Ab},DChain I P ops n l e h cs e' h'->cs.length=l.length
 | [],_,_,[],_,_,_=>rfl
 | _::_,_,_,_::_,_,_,hc=>by simp[hc.2.2.2.length]
 | [],_,_,_::_,_,_,hc=>hc.elim
 | _::_,_,_,[],_,_,hc=>hc.elim
def B9:List Oper->List OpRec->List (TW (Option AV))
  | o::l,c::cs=>Ho o.dst c.r::B9 l cs
  | _,_=>[]
def BC:List OpRec->List (TW (Option AObj))
  | c::cs=>heapUpd c.W::BC cs
  | []=>[]
theorem LK: ∀{l:List Oper} {cs:List OpRec} {i:Nat} {u:TW (Option AV)},(B9 l cs)[i]?=some u->∃o c,l[i]?=some o/\cs[i]?=some c/\u=Ho o.dst c.r
 | [],_,i,u,h=>by simp[B9]at h
 | _::_,[],i,u,h=>by simp[B9]at h
 | o::l,c::cs,0,u,h=>by simp[B9]at h;exact⟨o,c,rfl,rfl,h.symm⟩
 | o::l,c::cs,i+1,u,h=>by simp only[B9,List.getElem?_cons_succ]at h |-;exact LK h
theorem NX: ∀{l:List Oper} {cs:List OpRec} {i:Nat} {o:Oper} {c:OpRec},l[i]?=some o->cs[i]?=some c->(B9 l cs)[i]?=some (Ho o.dst c.r)
 | [],_,i,o,c,h,_=>by simp at h
 | _::_,[],i,o,c,_,h=>by simp at h
 | o::l,c::cs,0,_,_,h,h'=>by simp at h h';subst h;subst h';rfl
 | o::l,c::cs,i+1,_,_,h,h'=>by simp only[B9,List.getElem?_cons_succ]at h h' |-;exact NX h h'
theorem heapUpds_get: ∀{cs:List OpRec} {i:Nat} {u:TW (Option AObj)},(BC cs)[i]?=some u->∃c,cs[i]?=some c/\u=heapUpd c.W
 | [],i,u,h=>by simp[BC]at h
 | c::cs,0,u,h=>by simp[BC]at h;exact⟨c,rfl,h.symm⟩
 | c::cs,i+1,u,h=>by simp only[BC,List.getElem?_cons_succ]at h |-;exact heapUpds_get h
theorem LH: ∀{cs:List OpRec} {i:Nat} {c:OpRec},cs[i]?=some c->(BC cs)[i]?=some (heapUpd c.W)
 | [],i,c,h=>by simp at h
 | c::cs,0,_,h=>by simp at h;subst h;rfl
 | c::cs,i+1,_,h=>by simp only[BC,List.getElem?_cons_succ]at h |-;exact LH h
theorem DChain.at_: ∀{l:List Oper} {e:As} {h:Ab} {cs:List OpRec} {e':As} {h':Ab} (k:Nat),DChain I P ops n l e h cs e' h'->∀{j:Nat} {o:Oper} {c:OpRec},l[j]?=some o->cs[j]?=some c->
 c.ok I P ops n o/\c.e=BW (fun i=>decide (i<k+j)) (B9 l cs) k e/\c.h=BW (fun i=>decide (i<k+j)) (BC cs) k h
 | [],_,_,_,_,_,_,_,j,o,c,h,_=>by simp at h
 | _::_,_,_,[],_,_,_,hc,_,_,_,_,_=>hc.elim
 | o::l,e,h,c::cs,e',h',k,hc,0,_,_,h1,h2=>by
  simp at h1 h2;subst h1;subst h2;refine⟨hc.2.2.1,?_,?_⟩
  . rw[hc.1];funext x;exact(EI (fun i u _ _=>by simp)).symm
  . rw[hc.2.1];funext x;exact(EI (fun i u _ _=>by simp)).symm
 | o::l,e,h,c::cs,e',h',k,hc,j+1,o',c',h1,h2=>by
  have ih:=hc.2.2.2.at_ (k+1) (j:=j) (o:=o') (c:=c') (by simpa using h1) (by simpa using h2);have hk:k+1+j=k+(j+1):=by omega
  rw[hk]at ih;refine⟨ih.1,?_,?_⟩
  . rw[ih.2.1];show _=BW _ (B9 l cs) (k+1) (if decide (k<k+(j+1))=true then(Ho o.dst c.r).f e else e);rw[if_pos (by simp)];rfl
  . rw[ih.2.2];show _=BW _ (BC cs) (k+1) (if decide (k<k+(j+1))=true then(heapUpd c.W).f h else h);rw[if_pos (by simp)];rfl
theorem DChain.end_: ∀{l:List Oper} {e:As} {h:Ab} {cs:List OpRec} {e':As} {h':Ab} (k:Nat) (L:Nat->Bool),(∀i,i<cs.length->L (k+i)=true)->DChain I P ops n l e h cs e' h'->e'=BW L (B9 l cs) k e/\h'=BW L (BC cs) k h
 | [],_,_,[],_,_,k,L,_,hc=>hc
 | [],_,_,_::_,_,_,_,_,_,hc=>hc.elim
 | _::_,_,_,[],_,_,_,_,_,hc=>hc.elim
 | o::l,e,h,c::cs,e',h',k,L,hL,hc=>by
  have ih:=hc.2.2.2.end_ (k+1) L (fun i hi=>by have:=hL (i+1) (by simp;omega);rwa[Nat.add_right_comm k 1 i,Nat.add_assoc k i 1]);have h0:=hL 0 (by simp);rw[Nat.add_zero]at h0;refine⟨?_,?_⟩
  . rw[ih.1];show _=BW L (B9 l cs) (k+1) (if L k=true then(Ho o.dst c.r).f e else e);rw[if_pos h0];rfl
  . rw[ih.2];show _=BW L (BC cs) (k+1) (if L k=true then(heapUpd c.W).f h else h);rw[if_pos h0];rfl
end
end Go.Proofs.YtbbfelelocccmaaGreat.Sv
namespace Go.Proofs.YtbbfelelocccmaaGreat.Sv
open Go
section
variable {I : Ab -> Prop} {P : Program} {ops : Array Oper} {n : Nat}
def Rz(ops:Array Oper)(L:Array Bool):Prop:=L.size=ops.size/\∀i,L.getD i false=true->∀o,ops[i]?=some o->∀e∈o.after,Region.binds .any e=true->L.getD e.on false=true
theorem Tg{L:Array Bool}{j i:Nat}(hj:j<L.size):(L.setIfInBounds j true).getD i false=(i==j||L.getD i false):=by
 by_cases h:i=j
 . subst h;simp[hj]
 . rw[getD_set_ne false (Ne.symm h)];simp[h]
theorem Fi{L:Array Bool}{i:Nat}(hi:i<L.size):L.getD i true=L.getD i false:=by
 simp[hi]
def todo(L:Array Bool):Nat:=(L.toList.filter (!·)).length
theorem YZ{L:Array Bool}{j:Nat}(hj:j<L.size)(h:L.getD j false=false):todo L=todo (L.setIfInBounds j true)+1:=by
 unfold todo;rw[Array.toList_setIfInBounds];have hl:L.toList[j]?=some false:=by
  rw[Array.getElem?_toList];simpa[hj]using h
 generalize L.toList=l at*;clear h hj
 induction l generalizing j with
 | nil=>simp at hl
 | cons x l ih=>
  cases j with
  | zero=>simp at hl;subst hl;simp
  | succ j=>
   simp at hl;have:=ih hl
   cases x<;>simp[this]
theorem WW{L:Array Bool}(h:todo L=0)(i:Nat)(hi:i<L.size):L.getD i false=true:=by
 unfold todo at h;have h1:L.toList.filter (!·)=[]:=List.eq_nil_of_length_eq_zero h;rw[List.filter_eq_nil_iff]at h1;have h2:=h1 L[i] (by simp);simp[hi];simpa using h2
theorem M8(a:Act)(d:Option Nat)(v:Value)(l:List Deferred):({a with defers:=l}:Act).put d v={a.put d v with defers:=l}:=by
 cases d<;>rfl
theorem Ye(a:Act)(d:Option Nat)(v v':Value)(h:({a with defers:=[]}:Act).put d v=({a with defers:=[]}:Act).put d v'):a.put d v=a.put d v':=by
 have h1:=congrArg Act.tmps h
 cases d with
 | none=>rfl
 | some d=>
  simp only[Act.put]at h1 |-;rw[h1]
theorem WI{o:Oper}{a:Act}{w:World}{R:Value->World->Prop}{N:Act->World->Prop}{Q:Exit->Act->World->Prop}
 (h:o.wp P {a with defers:=[]} w (fun a' w'=>∃v,a'=({a with defers:=[]}:Act).put o.dst v/\R v w') (fun e a' w'=>Q e {a' with defers:=a.defers} w'))
 (hn: ∀v w',R v w'->N (a.put o.dst v) w'):o.wp P a w N Q:=by
 unfold Oper.wp at h |-;rw[show(execOp ({a with defers:=[]}:Act).eval o)=execOp a.eval o from rfl]at h;generalize(execOp a.eval o).run P w=res at h |-;have key: ∀v w',(∃v',({a with defers:=[]}:Act).put o.dst v=({a with defers:=[]}:Act).put o.dst v'/\R v' w')->N (a.put o.dst v) w':=fun v w' ⟨v',h1,h2⟩=>by
  rw[Ye a _ _ _ h1];exact hn v' w' h2
 cases res with
 | ok n w3=>
  cases n with
  | value v=>exact key v w3 h
  | skip=>exact key undef w3 h
  | defer d=>
   obtain⟨v,h1,_⟩:=h;have h2:=congrArg Act.defers h1
   cases hd:o.dst<;>rw[hd]at h2<;>cases h2
  | enter f args=>
   refine Calls.mono h (fun e w4 he=>?_)
   cases e with
   | returned v=>exact key v w4 he
   | panicked ch=>exact he
   | outgrown=>
    obtain⟨a3,w5,hp3⟩:=he;exact⟨_,w5,hp3⟩
  | row r args=>exact Rows.mono h (fun v w' hh=>key v w' hh)
  | _=>exact h.elim
 | halt y w3=>cases y<;>first | exact h | exact h.elim
def PD(D:List Deferred)(Q:Exit->Act->World->Prop):Exit->Act->World->Prop:=fun e a w=>a.defers=D/\Q e {a with defers:=[]} w
theorem FI{Q Q':Exit->Act->World->Prop}(hpost: ∀e a w,Q e a w->Q' e a w): ∀(fuel:Nat) (L:Array Bool) (a1:Act) (w1:World),wpAny P .any ops Q fuel L a1 w1->wpAny P .any ops Q' fuel L a1 w1
 | 0,L,a1,w1,hx=>⟨hx.1,hpost _ _ _ hx.2⟩
 | fuel+1,L,a1,w1,hx=>by
  refine⟨fun h0=>hpost _ _ _ (hx.1 h0),fun i hi=>?_⟩;have h1:=hx.2 i hi;unfold wpOp at h1 |-
  cases ho:ops[i]? with
  | none=>rw[ho]at h1;exact FI hpost _ _ _ _ h1
  | some o=>
   rw[ho]at h1;simp only at h1 |-
   by_cases hw:Region.wanted o (yielded ops a1.tmps)=true
   . rw[if_pos hw]at h1 |-;rcases h1 with hp |⟨hp1,a2,w2,hp2⟩
     . refine .inl ?_;have hp':=Oper.wp_mono (fun a2 w2=>FI hpost fuel _ a2 w2) hp;clear hp;unfold Oper.wp at hp' |-;generalize(execOp a1.eval o).run P w1=res at hp' |-;exact jH
     . exact .inr ⟨hp1,a2,w2,hpost _ _ _ hp2⟩
   . rw[if_neg hw]at h1 |-;exact FI hpost _ _ _ _ h1
theorem Sim.d0{H:Ax}{ι:Ba}{s:Ai}{a:Act}{w:World}(hs:Sim H ι s a w):{a with defers:=[]}=a:=by
 have:=hs.d
 cases a;simp only at this;subst this;rfl
theorem DChain.keeps: ∀{l:List Oper} {e:As} {h:Ab} {cs:List OpRec} {e':As} {h':Ab} (k:Nat) (L:Nat->Bool) (g:Ab),DChain I P ops n l e h cs e' h'->I g->I (BW L (BC cs) k g)
 | [],_,_,[],_,_,_,_,_,_,hg=>hg
 | [],_,_,_::_,_,_,_,_,_,hc,_=>hc.elim
 | _::_,_,_,[],_,_,_,_,_,hc,_=>hc.elim
 | o::l,_,_,c::cs,_,_,k,L,g,hc,hg=>by
  refine hc.2.2.2.keeps (k+1) L _ ?_;show I (if L k=true then hputs g c.W else g);split
  . cases hr:c.run with
    | true=>exact(hc.2.2.1.2.2.1 hr).2 g hg
    | false=>rw[(hc.2.2.1.2.2.2 hr).1];exact hg
  . exact hg
theorem Ss(a:Act)(d:Option Nat)(v:Value):(a.put d v).defers=a.defers:=by cases d<;>rfl
theorem Qa{cs:List OpRec}{e0 e':As}{h0 h':Ab}{K:Ai->Prop}{D:List Deferred}(hchain:DChain I P ops n ops.toList e0 h0 cs e' h')(hI0:I h0)(hchk:cA ops (cs.map OpRec.sets)=true)(hK:K ⟨n,e',h'⟩)
 {H0:Ax} {ι0:Ba} {w0:World} (hr0:HeapRel H0 ι0 h0 w0):
 ∀(fuel:Nat) (L:Array Bool) (H:Ax) (ι:Ba) (a:Act) (w:World),Rz ops L->todo L<=fuel->a.defers=D->
  Sim H ι ⟨n,BW (fun i=>L.getD i false) (B9 ops.toList cs) 0 e0,BW (fun i=>L.getD i false) (BC cs) 0 h0⟩ {a with defers:=[]} w->
  Step H0 ι0 h0 w0 H ι (BW (fun i=>L.getD i false) (BC cs) 0 h0) w->
  wpAny P .any ops (PD D (Post H0 ι0 h0 w0 (B4 K fun _ _=>False))) fuel L a w:=by
 have hlen:cs.length=ops.size:=by rw[hchain.length];simp
 have hget: ∀{i:Nat},i<ops.size->∃o c,ops[i]?=some o/\ops.toList[i]?=some o/\cs[i]?=some c:=fun {i} hi=>by
  refine⟨ops[i],cs[i]'(by omega),by simp[hi],by simp[hi],by simp[hlen,hi]⟩
 -- the end
 have hdone: ∀(L:Array Bool) (H:Ax) (ι:Ba) (a:Act) (w:World),Rz ops L->(∀i,i<ops.size->L.getD i false=true)->a.defers=D->
  Sim H ι ⟨n,BW (fun i=>L.getD i false) (B9 ops.toList cs) 0 e0,BW (fun i=>L.getD i false) (BC cs) 0 h0⟩ {a with defers:=[]} w->
  Step H0 ι0 h0 w0 H ι (BW (fun i=>L.getD i false) (BC cs) 0 h0) w->PD D (Post H0 ι0 h0 w0 (B4 K fun _ _=>False)) .normal a w:=fun L H ι a w hcl hall hD hs hst=>by
  obtain⟨r1,r2⟩:=hchain.end_ 0 (fun i=>L.getD i false) (fun i hi=>by rw[Nat.zero_add];exact hall i (by omega));rw[<-r1,<-r2]at hs;rw[<-r2]at hst;exact⟨hD,_,H,ι,hK,hs,hst⟩
 -- if none may come up all have come up
 have hready: ∀(L:Array Bool),Rz ops L->Region.ready .any ops L=[]->∀i,i<ops.size->L.getD i false=true:=fun L hcl hre i=>by
  induction i using Nat.strongRecOn with
  | _ i ih=>
   intro hi
   cases hb:L.getD i false with
   | true=>rfl
   | false=>
    exfalso;obtain⟨o,c,g1,g2,g3⟩:=hget hi;have:i∈Region.ready .any ops L:=by
     rw[mem_ready];refine⟨by rw[Fi (by rw[hcl.1];exact hi)];exact hb,o,g1,fun e he hbd=>?_⟩;have hlt:=(Ob hchk g1 (by rw[List.getElem?_map,g3];rfl)).1 e he hbd;exact ih e.on hlt (by omega)
    rw[hre]at this
    cases this
 intro fuel
 induction fuel with
 | zero=>
  intro L H ι a w hcl hf hD hs hst;have hall:=fun i hi=>WW (Nat.le_zero.1 hf) i (by rw[hcl.1];exact hi)
  refine⟨?_,hdone L H ι a w hcl hall hD hs hst⟩;rw[List.eq_nil_iff_forall_not_mem];intro i hi;obtain⟨k1,o,k2,_⟩:=mem_ready.1 hi;have hlt:i<ops.size:=(Array.getElem?_eq_some_iff.1 k2).1;rw[Fi (by rw[hcl.1];exact hlt),hall i hlt]at k1
  cases k1
 | succ fuel ih=>
  intro L H ι a w hcl hf hD hs hst;refine⟨fun hre=>hdone L H ι a w hcl (hready L hcl hre) hD hs hst,fun j hj=>?_⟩;obtain⟨k1,o,k2,k3⟩:=mem_ready.1 hj;have hlt:j<ops.size:=(Array.getElem?_eq_some_iff.1 k2).1;have hLj:L.getD j false=false:=by rw[<-Fi (by rw[hcl.1];exact hlt)];exact k1
  obtain⟨o',c,g1,g2,g3⟩:=hget hlt;rw[k2]at g1;cases g1;obtain⟨c1,c2,c3⟩:=hchain.at_ 0 g2 g3;simp only[Nat.zero_add]at c2 c3;obtain⟨ok1,ok2,ok3,ok4⟩:=c1
  -- who shares something with j has come up just if it stands ahead
  have hord: ∀i oi ci,i≠j->ops[i]?=some oi->cs[i]?=some ci->(oi.apart ops o=true/\Co ci.sets c.sets=true->False)->(o.apart ops oi=true/\Co c.sets ci.sets=true->False)->L.getD i false=decide (i<j):=fun i oi ci hne h1 h2 hna hna'=>by
   rcases Nat.lt_or_gt_of_ne hne with hij | hij
   . have:=(Ob hchk k2 (by rw[List.getElem?_map,g3];rfl)).2 i oi ci.sets hij h1 (by rw[List.getElem?_map,h2];rfl);rcases this with hpath | hap
     . have:=hasPath_spec (U:=fun i=>L.getD i false=true) (fun x ox hx hox e he hb=>hcl.2 x hx ox hox e he hb) 24 o hpath k3;rw[this];simp[hij]
     . exact(hna hap).elim
   . have:=(Ob hchk h1 (by rw[List.getElem?_map,h2];rfl)).2 j o c.sets hij k2 (by rw[List.getElem?_map,g3];rfl);rcases this with hpath | hap
     . cases hL:L.getD i false with
       | false=>simp;omega
       | true=>
        have:=hasPath_spec (U:=fun i=>L.getD i false=true) (fun x ox hx hox e he hb=>hcl.2 x hx ox hox e he hb) 24 oi hpath (fun e he hb=>hcl.2 i hL oi h1 e he hb);rw[hLj]at this
        cases this
     . exact(hna' hap).elim
  have hcls:Rz ops (L.setIfInBounds j true):=by
   have hjL:j<L.size:=by rw[hcl.1];exact hlt
   refine⟨by simp[hcl.1],fun i hi oi h1 e he hb=>?_⟩;rw[Tg hjL]at hi |-
   by_cases hij:i=j
   . subst hij;rw[k2]at h1;cases h1;rw[k3 e he hb];simp
   . have:L.getD i false=true:=by simpa[hij]using hi
     rw[hcl.2 i this oi h1 e he hb];simp
  have htodo:todo (L.setIfInBounds j true)<=fuel:=by
   have:=YZ (by rw[hcl.1];exact hlt) hLj;omega
  have hLL:(fun i=>(L.setIfInBounds j true).getD i false)=fun i=>(i==j||L.getD i false):=funext fun i=>Tg (by rw[hcl.1];exact hlt)
  have hwrE: ∀{i:Nat} {u:TW (Option AV)},(B9 ops.toList cs)[i]?=some u->∃oi ci,ops[i]?=some oi/\cs[i]?=some ci/\u=Ho oi.dst ci.r:=fun h=>by
   obtain⟨oi,ci,q1,q2,q3⟩:=LK h;exact⟨oi,ci,by simpa using q1,q2,q3⟩
  -- the state behind it
  have hE:BW (fun i=>(L.setIfInBounds j true).getD i false) (B9 ops.toList cs) 0 e0=GC (BW (fun i=>L.getD i false) (B9 ops.toList cs) 0 e0) o.dst c.r:=by
   rw[hLL];refine Ps (NX g2 g3) (fun i=>rfl) (fun x hx i v hi hv hw=>?_);obtain⟨oi,ci,q1,q2,rfl⟩:=hwrE hv;have hd1:o.dst=some x:=by simpa[Ho]using hx
   have hd2:oi.dst=some x:=by simpa[Ho]using hw
   have hd:L.getD i false=decide (i<j):=hord i oi ci (by omega) q1 q2 (fun hap=>(Oper.apart_spec hap.1).2.1 x hd2 hd1) (fun hap=>(Oper.apart_spec hap.1).2.1 x hd1 hd2);show L.getD i false=false;rw[hd];simp;omega
  have hHp:BW (fun i=>(L.setIfInBounds j true).getD i false) (BC cs) 0 h0=hputs (BW (fun i=>L.getD i false) (BC cs) 0 h0) c.W:=by
   rw[hLL];refine Ps (LH g3) (fun i=>rfl) (fun x hx i v hi hv hw=>?_);obtain⟨ci,q2,rfl⟩:=heapUpds_get hv;have hil:i<ops.size:=by rw[<-hlen];exact(List.getElem?_eq_some_iff.1 q2).1
   obtain⟨oi,_,q1,_,_⟩:=hget hil;have hno: ∀(s1 s2:OpRec),(s1.W.map (·.1)).contains x=true->(s2.W.map (·.1)).contains x=true->Co s1.sets s2.sets=true->False:=fun s1 s2 h1 h2 hap=>by
    simp only[Co,OpRec.sets,Bool.and_eq_true,List.all_eq_true]at hap;have:=hap.1 x (by simpa using h1);rw[h2]at this;simp at this
   have hd:L.getD i false=decide (i<j):=hord i oi ci (by omega) q1 q2 (fun hap=>hno ci c hw hx hap.2) (fun hap=>hno c ci hx hw hap.2);show L.getD i false=false;rw[hd];simp;omega
  -- what it looks at is as in the order of the text
  have hlook: ∀t∈o.looksAt ops,BW (fun i=>L.getD i false) (B9 ops.toList cs) 0 e0 t=c.e t:=fun t ht=>by
   rw[c2];refine Gj rfl fun i u hu hw=>?_
   obtain⟨oi,ci,q1,q2,rfl⟩:=hwrE hu;have hd:oi.dst=some t:=by simpa[Ho]using hw
   rw[Nat.zero_add]
   by_cases hij:i=j
   . subst hij;rw[hLj];simp
   . exact hord i oi ci hij q1 q2 (fun hap=>(Oper.apart_spec hap.1).1 t hd ht) (fun hap=>(Oper.apart_spec hap.1).2.2 t hd ht)
  have hslots: ∀b∈c.R,BW (fun i=>L.getD i false) (BC cs) 0 h0 b=c.h b:=fun b hb=>by
   rw[c3];refine Gj rfl fun i u hu hw=>?_
   obtain⟨ci,q2,rfl⟩:=heapUpds_get hu;have hil:i<ops.size:=by rw[<-hlen];exact(List.getElem?_eq_some_iff.1 q2).1
   obtain⟨oi,_,q1,_,_⟩:=hget hil;rw[Nat.zero_add]
   by_cases hij:i=j
   . subst hij;rw[hLj];simp
   . refine hord i oi ci hij q1 q2 (fun hap=>?_) (fun hap=>?_)
     . have h2:=hap.2;simp only[Co,OpRec.sets,Bool.and_eq_true,List.all_eq_true]at h2;have:=h2.1 b (by simpa[heapUpd]using hw);have hb':c.R.contains b=true:=by simpa using hb
       rw[hb']at this;simp at this
     . have h2:=hap.2;simp only[Co,OpRec.sets,Bool.and_eq_true,List.all_eq_true]at h2;have:=h2.2 b (by simpa[heapUpd]using hw);have hb':c.R.contains b=true:=by simpa using hb
       rw[hb']at this;simp at this
  have hguard:AJ ops o (BW (fun i=>L.getD i false) (B9 ops.toList cs) 0 e0)=some c.run:=by
   rw[<-ok1];unfold AJ
   cases eg:o.guard with
   | none=>rfl
   | some gw=>
    obtain⟨g,want⟩:=gw;simp only
    cases ed:(ops[g]?).bind (·.dst)with
    | none=>rfl
    | some d=>simp only[hlook d (by simp[Oper.looksAt,eg,ed])]
  have hopnd: ∀x∈o.op.operands,Ak (BW (fun i=>L.getD i false) (B9 ops.toList cs) 0 e0) x=Ak c.e x:=fun x hx=>by
   cases x with
   | tmp t=>exact hlook t (by unfold Oper.looksAt;exact List.mem_append_left _ (List.mem_filterMap.2 ⟨.tmp t,by simpa using hx,rfl⟩))
   | _=>rfl
  have hrL:=hs.heap;unfold wpOp;rw[k2];simp only;rw[C9 hs hguard]
  cases hrun:c.run with
  | true=>
   simp only[if_true];refine .inl (WI (R:=fun v w'=>∃H' ι',(∀x,c.r=some x->Rel H' ι' x v)/\HeapRel H' ι' (hputs (BW (fun i=>L.getD i false) (BC cs) 0 h0) c.W) w'/\Step H ι (BW (fun i=>L.getD i false) (BC cs) 0 h0) w H' ι' (hputs (BW (fun i=>L.getD i false) (BC cs) 0 h0) c.W) w') (Oper.wp_mono (fun a' w' hx=>?_) ((ok3 hrun).1 H ι {a with defers:=[]} w _ _ hs hopnd hslots (hchain.keeps 0 _ _ hI0))) (fun v w' hx=>?_))
   . obtain⟨v,H',ι',h1,h2⟩:=hx;exact⟨v,h1,H',ι',h2⟩
   obtain⟨H',ι',z1,z2,z3⟩:=hx;refine ih _ H' ι' _ w' hcls htodo ((Ss a o.dst v).trans hD) ?_ ?_
   . rw[hE,hHp,<-M8];exact hs.put z2 z3 z1 ok2
   . rw[hHp];exact hst.trans hr0 hrL z3
  | false=>
   simp only[Bool.false_eq_true,if_false];obtain⟨hw0,hr00⟩:=ok4 hrun;refine ih _ H ι _ w hcls htodo ((Ss a o.dst undef).trans hD) ?_ ?_
   . rw[hE,hHp,hw0,<-M8];rcases hr00 with hr00 | hr00
     . rw[hr00];exact hs.del ok2
     . rw[hr00];exact hs.put hs.heap (Step.refl _ _ _ _) (fun x e=>by cases e;exact .tup _ _ _ rfl (fun j x v h=>by simp at h)) ok2
   . rw[hHp,hw0];exact hst
def fT(I:Ab->Prop)(P:Program)(ops:Array Oper)(n:Nat)(l:List Oper)(e:As)(h:Ab)(acc:List (List Nat×List Nat))(K:Ai->Prop):Prop:=
  ∃cs e' h',DChain I P ops n l e h cs e' h'/\cA ops (acc++cs.map OpRec.sets)=true/\K ⟨n,e',h'⟩
def DOps(P:Program)(ops:Array Oper)(n:Nat)(l:List Oper)(e:As)(h:Ab)(acc:List (List Nat×List Nat))(K:Ai->Prop):Prop:=
  ∃cs e' h',DChain (fun _=>True) P ops n l e h cs e' h'/\cA ops (acc++cs.map OpRec.sets)=true/\K ⟨n,e',h'⟩
theorem Hx(k i:Nat):(Array.replicate k false).getD i false=false:=by
 by_cases hi:i<k<;>simp[hi]
theorem any_orderD{id:Nat}{K:Ai->Prop}{e:As}{h:Ab}(hI0:I h)(hm:P.follows .mixedOrders=true)(hd:fT I P ops n ops.toList e h [] K){H:Ax}{ι:Ba}{a:Act}{w:World}(hs:Sim H ι ⟨n,e,h⟩ {a with defers:=[]} w){Q:Exit->Act->World->Prop}
 (hQ: ∀e a' w',PD a.defers (Post H ι h w (B4 K fun _ _=>False)) e a' w'->Q e a' w'):(Code.region id ops true).wp P Q a w:=by
 obtain⟨cs,e',h',h1,h2,h3⟩:=hd;refine wp_region_any hm (FI hQ _ _ _ _ ?_);have hgrow: ∀rb,rb<w.heap.size->({w with drawn:=w.drawn+1}:World).heap[rb]?=w.heap[rb]?:=fun _ _=>rfl
 have hr':HeapRel H ι h {w with drawn:=w.drawn+1}:=hs.heap.grow hgrow;have hst:Step H ι h w H ι h {w with drawn:=w.drawn+1}:=Step.grow hgrow (Nat.le_refl _) rfl rfl;have hm0: ∀{V:Type} (l:List (TW V)) (g:Nat->V),BW (fun i=>(Array.replicate ops.size false).getD i false) l 0 g=g:=fun l g=>funext fun x=>EI fun i u _ _=>Hx _ _
 exact Qa (D:=a.defers) (K:=K) h1 hI0 (by simpa using h2) h3 hs.heap ops.size (Array.replicate ops.size false) H ι a {w with drawn:=w.drawn+1}
  ⟨by simp,fun i hi=>by rw[Hx]at hi;cases hi⟩ (by unfold todo;simp) rfl (by rw[hm0,hm0];exact⟨hs.n,hs.d,hs.env,hr'⟩) (by rw[hm0];exact hst)
theorem YD{id:Nat}{Q:Exit->Ai->Prop}{e:As}{h:Ab}(hI0:I h)(hm:P.follows .mixedOrders=true)(hd:fT I P ops n ops.toList e h [] (fun s'=>Q .normal s')):AGo P (.region id ops true) ⟨n,e,h⟩ Q:=by
 intro H ι a w hs;refine any_orderD hI0 hm hd (by rw[hs.d0];exact hs) fun e a2 w2 hp=>?_
 obtain⟨hD,s',H',ι',q,r,t⟩:=hp;have e2:{a2 with defers:=[]}=a2:=by
  have:=hD.trans hs.d
  cases a2;simp only at this;subst this;rfl
 rw[e2]at r
 cases e<;>first | exact⟨s',H',ι',q,r,t⟩ | exact q.elim
theorem TR{id:Nat}{Q:Exit->Ai->Prop}{e:As}{h:Ab}(hm:P.follows .mixedOrders=true)(hd:DOps P ops n ops.toList e h [] (fun s'=>Q .normal s')):AGo P (.region id ops true) ⟨n,e,h⟩ Q:=YD (I:=fun _=>True) trivial hm hd
variable {o : Oper} {rest : List Oper} {e : As} {h : Ab} {acc : List (List Nat × List Nat)} {K : Ai -> Prop}
theorem DOps.nil(hc:cA ops acc=true)(hk:K ⟨n,e,h⟩):DOps P ops n [] e h acc K:=⟨[],e,h,⟨rfl,rfl⟩,by simpa using hc,hk⟩
theorem DOps.step'{R:List Nat}{W:List (Nat×AObj)}{r:Option AV}(hg:AJ ops o e=some true)(ho:OLoc P o e h R W r)(hd: ∀t,o.dst=some t->t<n)(hr:DOps P ops n rest (GC e o.dst r) (hputs h W) (acc++[(R,W.map (·.1))]) K):
 DOps P ops n (o::rest) e h acc K:=by
 obtain⟨cs,e',h',h1,h2,h3⟩:=hr;exact⟨⟨e,h,true,R,W,r⟩::cs,e',h',⟨rfl,rfl,⟨hg,hd,fun _=>⟨fun H ι a w s Q g1 g2 g3 _=>ho H ι a w s Q g1 g2 g3,fun _ _=>trivial⟩,fun h=>by cases h⟩,h1⟩,by simpa[OpRec.sets]using h2,h3⟩
theorem On(hg:AJ ops o e=some false)(hd: ∀t,o.dst=some t->t<n)(hr:DOps P ops n rest (GC e o.dst none) h (acc++[([],[])]) K):DOps P ops n (o::rest) e h acc K:=by
 obtain⟨cs,e',h',h1,h2,h3⟩:=hr;exact⟨⟨e,h,false,[],[],none⟩::cs,e',h',⟨rfl,rfl,⟨hg,hd,(fun h=>by cases h),fun _=>⟨rfl,.inl rfl⟩⟩,h1⟩,by simpa[OpRec.sets]using h2,h3⟩
theorem TL(hg:AJ ops o e=some false)(hd: ∀t,o.dst=some t->t<n)(hr:DOps P ops n rest (GC e o.dst (some (.tup []))) h (acc++[([],[])]) K):DOps P ops n (o::rest) e h acc K:=by
 obtain⟨cs,e',h',h1,h2,h3⟩:=hr;exact⟨⟨e,h,false,[],[],some (.tup [])⟩::cs,e',h',⟨rfl,rfl,⟨hg,hd,(fun h=>by cases h),fun _=>⟨rfl,.inr rfl⟩⟩,h1⟩,by simpa[OpRec.sets]using h2,h3⟩
theorem J6{d n:Nat}{o:Oper}(hd:o.dst=some d)(h:Nat.blt d n=true): ∀t,o.dst=some t->t<n:=fun t e=>by rw[hd]at e;cases e;rwa[Nat.blt_eq]at h
theorem lt_none{n:Nat}{o:Oper}(hd:o.dst=none): ∀t,o.dst=some t->t<n:=fun t e=>by rw[hd]at e;cases e
theorem AOps.s(d:Nat){R:List Nat}{r:AV}(hd:o.dst=some d)(hb:Nat.blt d n=true)(hg:AJ ops o e=some true)(hq:QLoc P o e h R r)(hr:AOps P ops rest ⟨n,Aa e d r,h⟩ K):AOps P ops (o::rest) ⟨n,e,h⟩ K:=
 AOps.step' hg hq.loc (J6 hd hb) (by rw[hd];exact hr)
theorem AOps.x(d:Nat){R:List Nat}{W:List (Nat×AObj)}{r:AV}(hd:o.dst=some d)(hb:Nat.blt d n=true)(hg:AJ ops o e=some true)(hq:OLoc P o e h R W (some r))(hr:AOps P ops rest ⟨n,Aa e d r,hputs h W⟩ K):AOps P ops (o::rest) ⟨n,e,h⟩ K:=
 AOps.step' hg hq (J6 hd hb) (by rw[hd];exact hr)
theorem AOps.w{R:List Nat}{W:List (Nat×AObj)}{r:Option AV}(hd:o.dst=none)(hg:AJ ops o e=some true)(hq:OLoc P o e h R W r)(hr:AOps P ops rest ⟨n,e,hputs h W⟩ K):AOps P ops (o::rest) ⟨n,e,h⟩ K:=
 AOps.step' hg hq (lt_none hd) (by rw[hd];exact hr)
theorem AOps.k(d:Nat)(hd:o.dst=some d)(hb:Nat.blt d n=true)(hg:AJ ops o e=some false)(hr:AOps P ops rest ⟨n,Aa e d (.tup []),h⟩ K):AOps P ops (o::rest) ⟨n,e,h⟩ K:=
 Vg hg (J6 hd hb) (by rw[hd];exact hr)
theorem DOps.s(d:Nat){R:List Nat}{r:AV}(hd:o.dst=some d)(hb:Nat.blt d n=true)(hg:AJ ops o e=some true)(hq:QLoc P o e h R r)(hr:DOps P ops n rest (Aa e d r) h (acc++[(R,[])]) K):DOps P ops n (o::rest) e h acc K:=
 DOps.step' hg hq.loc (J6 hd hb) (by rw[hd];exact hr)
theorem DOps.x(d:Nat){R:List Nat}{W:List (Nat×AObj)}{r:AV}(hd:o.dst=some d)(hb:Nat.blt d n=true)(hg:AJ ops o e=some true)(hq:OLoc P o e h R W (some r))(hr:DOps P ops n rest (Aa e d r) (hputs h W) (acc++[(R,W.map (·.1))]) K):DOps P ops n (o::rest) e h acc K:=
 DOps.step' hg hq (J6 hd hb) (by rw[hd];exact hr)
theorem DOps.w{R:List Nat}{W:List (Nat×AObj)}{r:Option AV}(hd:o.dst=none)(hg:AJ ops o e=some true)(hq:OLoc P o e h R W r)(hr:DOps P ops n rest e (hputs h W) (acc++[(R,W.map (·.1))]) K):DOps P ops n (o::rest) e h acc K:=
 DOps.step' hg hq (lt_none hd) (by rw[hd];exact hr)
theorem DOps.k(d:Nat)(hd:o.dst=some d)(hb:Nat.blt d n=true)(hg:AJ ops o e=some false)(hr:DOps P ops n rest (NZ e d) h (acc++[([],[])]) K):DOps P ops n (o::rest) e h acc K:=
 On hg (J6 hd hb) (by rw[hd];exact hr)
theorem Ve(d:Nat)(hd:o.dst=some d)(hb:Nat.blt d n=true)(hg:AJ ops o e=some false)(hr:DOps P ops n rest (Aa e d (.tup [])) h (acc++[([],[])]) K):DOps P ops n (o::rest) e h acc K:=
 TL hg (J6 hd hb) (by rw[hd];exact hr)
theorem AOps.split(d:Nat){b:Bool}{l:List Oper}(he:e d=some (.bool b))(h1:b=true->AOps P ops l ⟨n,Aa e d (.bool true),h⟩ K)(h2:b=false->AOps P ops l ⟨n,Aa e d (.bool false),h⟩ K):AOps P ops l ⟨n,e,h⟩ K:=by
 exact cI
theorem DOps.split(d:Nat){b:Bool}{l:List Oper}(he:e d=some (.bool b))(h1:b=true->DOps P ops n l (Aa e d (.bool true)) h acc K)(h2:b=false->DOps P ops n l (Aa e d (.bool false)) h acc K):DOps P ops n l e h acc K:=by
 exact cI
end
end Go.Proofs.YtbbfelelocccmaaGreat.Sv
namespace Go.Proofs.YtbbfelelocccmaaGreat.Sv
open Go
def Mg(P:Program)(t:TypeId):Bool:=
  !P.stoodInHeld t&& !P.eqGuardType P.depth t&&
  match P.underlying t with
  | some (.struct fs)=>(List.range fs.size).all fun i=>match fs[i]? with
    | some f=>f.name != "_" &&f.offset==i&&(match P.underlying f.type with | some (.int _) | some .bool | some .string=>true | _=>false)
    | none=>false
  | _=>false
def K5:TypeDesc->Bool
  | .int _ | .bool | .string=>true
  | _=>false
def NQ:AV->AV->TypeDesc->Prop
  | .int ka _,.int kb _,.int _=>ka=kb
  | .bool _,.bool _,.bool=>True
  | .str _,.str _,.string=>True
  | _,_,_=>False
theorem KI{P:Program}{w:World}{t:TypeId}{d:TypeDesc}{cs:Array Value}{off:Nat}{v:Value}(h:P.underlying t=some d)(hd:K5 d=true)(hv:cs[off]?=some v):(part t cs off).run P w= .ok v w:=by
 have:NH d=false:=by cases d<;>first | rfl |(simp[K5]at hd)
 simp only[part,Sem.run_bind,Iy h,Result.andThen_ok,this,Bool.false_eq_true,if_false,hv,Sem.run_pure]
theorem Qz{P:Program}{w:World}{H:Ax}{ι:Ba}{n:Nat}{xs ys:List AV}{us vs:Array Value}(hlx:xs.length=us.size)(hly:ys.length=vs.size)
 (hx: ∀(j:Nat) (x:AV) (v:Value),xs[j]?=some x->us[j]?=some v->Rel H ι x v) (hy: ∀(j:Nat) (x:AV) (v:Value),ys[j]?=some x->vs[j]?=some v->Rel H ι x v)
 (fs:List Field): ∀(k:Nat) (r:Bool),(∀i f,fs[i]?=some f->f.name≠ "_" /\f.offset=k+i/\∃d,P.underlying f.type=some d/\
  ∀x y,xs[k+i]?=some x->ys[k+i]?=some y->NQ x y d)->
  eqCells (xs.drop k) (ys.drop k)=some r->k+fs.length=xs.length->(Op.eqFields (n+1) us vs fs).run P w= .ok r w:=by
 induction fs with
 | nil=>
  intro k r _ he hl;simp only[List.length_nil,Nat.add_zero]at hl;rw[List.drop_of_length_le (by omega)]at he
  cases hyd:ys.drop k with
  | nil=>rw[hyd]at he;simp[eqCells]at he;subst he;simp[Op.eqFields]
  | cons y l=>rw[hyd]at he;simp[eqCells]at he
 | cons f fs ih=>
  intro k r hf he hl;obtain⟨g1,g2,d,g3,g4⟩:=hf 0 f rfl;simp only[Nat.add_zero]at g2 g4;have hk:k<xs.length:=by simp at hl;omega
  rw[List.drop_eq_getElem_cons hk]at he
  cases hyd:ys.drop k with
  | nil=>rw[hyd]at he;simp[eqCells]at he
  | cons y l=>
   have hky:k<ys.length:=by
    rcases Nat.lt_or_ge k ys.length with h | h
    . exact h
    . rw[List.drop_of_length_le h]at hyd;cases hyd
   rw[List.drop_eq_getElem_cons hky]at hyd
   cases hyd
   rw[List.drop_eq_getElem_cons hky]at he;unfold eqCells at he
   cases e1:Rd xs[k] ys[k]with
   | none=>rw[e1]at he;simp at he
   | some p=>
    cases e2:eqCells (xs.drop (k+1)) (ys.drop (k+1))with
    | none=>rw[e1,e2]at he;simp at he
    | some q=>
     rw[e1,e2]at he;simp only[Option.some.injEq]at he;obtain⟨u,hu⟩:=Br (c:=us) (j:=k) (by omega);obtain⟨v,hv⟩:=Br (c:=vs) (j:=k) (by omega);have hru:=hx k _ u (List.getElem?_eq_getElem hk) hu;have hrv:=hy k _ v (List.getElem?_eq_getElem hky) hv
     replace g4:=g4 _ _ (List.getElem?_eq_getElem hk) (List.getElem?_eq_getElem hky)
     have hdd:K5 d=true:=by
      cases d<;>first | rfl |(exfalso;revert g4;cases xs[k]<;>cases ys[k]<;>exact id)
     have heq:(Op.equalIn (n+1) f.type u v).run P w= .ok p w:=by
      clear ih hf hl;generalize xs[k]=x at*;generalize ys[k]=y at*
      cases x<;>simp[Rd]at e1<;>cases y<;>simp[Rd]at e1
      . have a1:=hru.bool_inv;have a2:=hrv.bool_inv;subst a1;subst a2
        cases d<;>simp[NQ]at g4
        rw[run_equalIn_bool' w n f.type _ _ g3,<-e1]
      . have a1:=hru.int_inv;have a2:=hrv.int_inv;subst a1;subst a2
        cases d<;>simp[NQ]at g4
        subst g4;simp at e1;rw[run_equalIn_int w n f.type _ _ _ _ g3,<-e1]
      . have a1:=hru.str_inv;have a2:=hrv.str_inv;subst a1;subst a2
        cases d<;>simp[NQ]at g4
        rw[run_equalIn_string w n f.type _ _ g3,<-e1]
     have ihh:=ih (k+1) q (fun i f' hf'=>by have:=hf (i+1) f' (by simpa using hf');rwa[show k+(i+1)=k+1+i by omega]at this) e2 (by simp at hl |-;omega);simp only[Op.eqFields,g1,ne_eq,not_false_eq_true,if_true,Sem.run_bind,g2,KI g3 hdd hu,KI g3 hdd hv,Result.andThen_ok,heq]
     cases p with
     | true=>simp only[Bool.not_true,Bool.false_eq_true,if_false,ihh];rw[<-he];rfl
     | false=>simp only[Bool.not_false,if_true,Sem.run_pure];rw[<-he];rfl
section
variable {P : Program} {T : Nat -> Option Ar} {o : Oper} {e : As} {h : Ab}
def Kp:TK->AV->Bool
  | .int k,.int k' _=>decide (k=k')
  | .bool,.bool _=>true
  | .string,.str _=>true
  | _,_=>false
def C0(T:Nat->Option Ar):List (Nat×Nat)->List AV->Bool
  | [],[]=>true
  |(_,t)::fs,x::xs=>(match T t with | some i=>Kp i.k x | none=>false)&&C0 T fs xs
  | _,_=>false
theorem Jc{fs:List (Nat×Nat)}: ∀{xs:List AV},C0 T fs xs=true->fs.length=xs.length/\∀(i:Nat) (f:Nat×Nat) (x:AV),fs[i]?=some f->xs[i]?=some x->∃t,T f.2=some t/\Kp t.k x=true:=by
 induction fs with
 | nil=>intro xs h;cases xs with | nil=>exact⟨rfl,fun i f x h=>by simp at h⟩ | cons=>simp[C0]at h
 | cons f fs ih=>
  intro xs h
  cases xs with
  | nil=>simp[C0]at h
  | cons x xs=>
   obtain⟨o,t⟩:=f;simp only[C0,Bool.and_eq_true]at h;obtain⟨h1,h2⟩:=ih h.2;refine⟨by simp[h1],fun i g y g1 g2=>?_⟩
   cases i with
   | zero=>
    simp at g1 g2;subst g1;subst g2;have:=h.1
    cases e:T t with
    | none=>rw[e]at this;cases this
    | some i=>rw[e]at this;exact⟨i,rfl,this⟩
   | succ i=>simp at g1 g2;exact h2 i g y g1 g2
theorem Hb(hT:Cn P T){t t':TypeId}{x y:Operand}{xs ys:List AV}{i:Ar}{fs:List (Nat×Nat)}{r:Bool}(neg:Bool)(ho:o.op= .binOp (bif neg then .neq else .eql) t x y t')(hx:Ak e x=some (.agg xs))(hy:Ak e y=some (.agg ys))(hp:Mg P t=true)(hi:T t=some i)(hk:i.k= .struct fs)
 (h1:C0 T fs xs=true) (h2:C0 T fs ys=true) (hr:eqCells xs ys=some r):QLoc P o e h [] (.bool (bif neg then !r else r)):=by
 intro H ι a w s hs g1 g2;have hx':Ak s.env x=some (.agg xs):=by rw[g1 x (by rw[ho];simp[Op.operands]),hx]
 have hy':Ak s.env y=some (.agg ys):=by rw[g1 y (by rw[ho];simp[Op.operands]),hy]
 obtain⟨us,hvx,hlx,hrx⟩:=(Am hs hx').agg_inv;obtain⟨vs,hvy,hly,hry⟩:=(Am hs hy').agg_inv;obtain⟨info,d,e1,e2,e3,e4,e5,e6⟩:=Aj (hT _ _ hi);obtain⟨A,rfl,rfl,hz⟩:=EC (P:=P) (d:=d) (e3▸hk);simp only[Mg,Bool.and_eq_true,Bool.not_eq_true',e2]at hp;obtain⟨⟨p1,p2⟩,p3⟩:=hp;have hfields:P.fieldsOf t=A:=by simp[Program.fieldsOf,e2]
 obtain⟨k1,k2⟩:=Jc h1;obtain⟨k3,k4⟩:=Jc h2;have hrun:(Op.equalIn 10000 t (.agg us) (.agg vs)).run P w= .ok r w:=by
  rw[run_equalIn_struct w 9999 t us vs (by rw[hfields];exact e2) p1,hfields];refine Qz (n:=9998) hlx hly hrx hry A.toList 0 r (fun i f hf=>?_) (by simpa using hr) (by simpa using k1);rw[Array.getElem?_toList]at hf;have hlt:i<A.size:=(Array.getElem?_eq_some_iff.1 hf).1;have hq:=List.all_eq_true.1 p3 i (List.mem_range.2 hlt);simp only[hf,Bool.and_eq_true,bne_iff_ne,ne_eq,beq_iff_eq]at hq;refine⟨hq.1.1,by omega,?_⟩;have hxi:i<xs.length:=by simp at k1;omega
  have hyi:i<ys.length:=by simp at k3;omega
  obtain⟨tx,a1,a2⟩:=k2 i (f.offset,f.type) xs[i] (by simp[hf]) (List.getElem?_eq_getElem hxi);obtain⟨ty,b1,b2⟩:=k4 i (f.offset,f.type) ys[i] (by simp[hf]) (List.getElem?_eq_getElem hyi);rw[a1]at b1;cases b1;obtain⟨info',d',c1,c2,c3,_⟩:=Aj (hT _ _ a1);refine⟨d',c2,?_⟩;intro xx yy hxx hyy;rw[Nat.zero_add,List.getElem?_eq_getElem hxi]at hxx;rw[Nat.zero_add,List.getElem?_eq_getElem hyi]at hyy
  cases hxx;cases hyy
  generalize xs[i]=xx at*;generalize ys[i]=yy at*
  cases ek:tx.k<;>rw[ek]at a2 b2<;>cases xx<;>simp[Kp]at a2<;>cases yy<;>simp[Kp]at b2
  . rw[Vq (P:=P) (d:=d') (by rw[<-c3,ek])];simp[NQ]
  . rw[Gv (P:=P) (d:=d') (by rw[<-c3,ek])];simp[NQ,<-a2,<-b2]
  . rw[KC (P:=P) (d:=d') (by rw[<-c3,ek])];simp[NQ]
 refine⟨_,.bool _ _,?_⟩
 cases neg with
 | true=>
  simp only[cond_true]at ho |-;simp only[execOp,ho,hvx,hvy,Sem.run_bind,run_eqGuard_agg w .neq t x y us vs p2,Result.andThen_ok,run_neq_struct,hrun,Sem.run_pure]
 | false=>
  simp only[cond_false]at ho |-;simp only[execOp,ho,hvx,hvy,Sem.run_bind,run_eqGuard_agg w .eql t x y us vs p2,Result.andThen_ok,run_eql_struct,hrun,Sem.run_pure]
def partCells(fs:List (Nat×Nat)):List (Nat×AV)->List AV->Option (List AV)
  | [],cs=>some cs
  |(i,x)::ps,cs=>match fs[i]? with
    | some (off,_)=>bif Nat.ble (off+x.cells.length) cs.length then partCells fs ps (DZ cs off x.cells)else none
    | none=>none
def Bv(e:As):List (Nat×Operand)->Option (List (Nat×AV))
  | []=>some []
  |(i,x)::ps=>match Ak e x,Bv e ps with
    | some y,some ys=>some ((i,y)::ys)
    | _,_=>none
theorem F0(l:List (Value×Nat))(off:Nat): ∀cs:Array Value,(l.foldl (fun cs (c,j)=>cs.setIfInBounds (off+j) c) cs).size=cs.size:=by
 induction l with
 | nil=>intro cs;rfl
 | cons x l ih=>intro cs;simp[ih]
theorem GB(off:Nat): ∀(vs:List Value) (k:Nat) (cs:Array Value) (j:Nat),((vs.zipIdx k).foldl (fun cs (c,j)=>cs.setIfInBounds (off+j) c) cs)[j]?=
 if off+k<=j/\j<off+k+vs.length/\j<cs.size then vs[j-(off+k)]? else cs[j]?
 | [],k,cs,j=>by simp;intro h1 h2;omega
 | v::vs,k,cs,j=>by
  rw[List.zipIdx_cons,List.foldl_cons,GB off vs (k+1)];simp only[Array.size_setIfInBounds,List.length_cons]
  by_cases h1:off+(k+1)<=j/\j<off+(k+1)+vs.length/\j<cs.size
  . rw[if_pos h1,if_pos (by omega)];have:j-(off+k)=(j-(off+(k+1)))+1:=by omega
    rw[this,List.getElem?_cons_succ]
  . rw[if_neg h1]
    by_cases h2:j=off+k
    . subst h2
      by_cases h3:off+k<cs.size
      . rw[if_pos (by omega)];simp[h3]
      . rw[if_neg (by omega)];simp[h3]
    . rw[Array.getElem?_setIfInBounds_ne (by omega),if_neg (by omega)]
theorem NV{H:Ax}{ι:Ba}{s:Ai}{a:Act}{w:World}{fs:List (Nat×Nat)}{places:Array (Nat×Nat)}(hpl: ∀(i off t:Nat),fs[i]?=some (off,t)->∃i',T t=some i'/\places[i]?=some (off,i'.size)):
 ∀(ps:List (Nat×AV)) (qs:List (Nat×Value)) (cs:List AV) (us:Array Value) (r:List AV),ps.length=qs.length->(∀(k:Nat) (p:Nat×AV) (q:Nat×Value),ps[k]?=some p->qs[k]?=some q->p.1=q.1/\Rel H ι p.2 q.2/\∀(off t:Nat) (i':Ar),fs[p.1]?=some (off,t)->T t=some i'->p.2.cells.length=i'.size)->
  cs.length=us.size->(∀(j:Nat) (x:AV) (v:Value),cs[j]?=some x->us[j]?=some v->Rel H ι x v)->partCells fs ps cs=some r->
  ∃vs,Instr.fill (places[·]?) us qs=some vs/\r.length=vs.size/\∀(j:Nat) (x:AV) (v:Value),r[j]?=some x->vs[j]?=some v->Rel H ι x v
 | [],qs,cs,us,r,hl,_,hlen,hrel,hr=>by
  have:qs=[]:=List.eq_nil_of_length_eq_zero (by simpa using hl.symm);subst this;simp[partCells]at hr;subst hr;exact⟨us,rfl,hlen,hrel⟩
 |(i,x)::ps,[],cs,us,r,hl,_,_,_,_=>by simp at hl
 |(i,x)::ps,(i',v)::qs,cs,us,r,hl,hp,hlen,hrel,hr=>by
  obtain⟨h1,h2,h3⟩:=hp 0 (i,x) (i',v) rfl rfl;simp only at h1 h2 h3;subst h1;unfold partCells at hr
  cases ef:fs[i]? with
  | none=>rw[ef]at hr;cases hr
  | some ot=>
   obtain⟨off,t⟩:=ot;rw[ef]at hr;simp only at hr
   cases eb:Nat.ble (off+x.cells.length) cs.length with
   | false=>rw[eb]at hr;cases hr
   | true=>
    rw[eb]at hr;simp only[cond_true]at hr;have hle:=Nat.le_of_ble_eq_true eb;obtain⟨ti,k1,k2⟩:=hpl i off t ef;obtain⟨c1,c2⟩:=FD h2;have hsz:=h3 off t ti ef k1;have hcs:(DZ cs off x.cells).length=cs.length:=EV hle;have hget:=GB off v.cells.toList 0 us;have hfs:(v.cells.zipIdx.foldl (fun cs (c,j)=>cs.setIfInBounds (off+j) c) us)=((v.cells.toList.zipIdx 0).foldl (fun cs (c,j)=>cs.setIfInBounds (off+j) c) us):=by
     rw[<-Array.foldl_toList];simp
    have ih:=NV hpl (H:=H) (ι:=ι) (s:=s) (a:=a) (w:=w) ps qs (DZ cs off x.cells) (v.cells.zipIdx.foldl (fun cs (c,j)=>cs.setIfInBounds (off+j) c) us) r (by simpa using hl) (fun k p q g1 g2=>hp (k+1) p q (by simpa using g1) (by simpa using g2))
     (by rw[hcs,hfs,F0];exact hlen) (fun j y u g1 g2=>by
      rw[hfs,hget]at g2;rw[ME hle]at g1;simp only[Nat.add_zero,Array.length_toList]at g2
      by_cases q1:j<off
      . rw[if_pos q1]at g1;rw[if_neg (by omega)]at g2;exact hrel j y u g1 g2
      . rw[if_neg q1]at g1
        by_cases q2:j<off+x.cells.length
        . rw[if_pos q2]at g1;rw[if_pos (by omega)]at g2;exact c2 _ y u g1 (by simpa using g2)
        . rw[if_neg q2]at g1;rw[if_neg (by omega)]at g2;exact hrel j y u g1 g2) hr
    obtain⟨vs,f1,f2⟩:=ih;refine⟨vs,?_,f2⟩;unfold Instr.fill;simp only[k2];rw[if_neg (by simp only[Bool.or_eq_true,decide_eq_true_eq,not_or];exact⟨by simp;omega,by omega⟩)];exact f1
def FSq(T:Nat->Option Ar)(fs:List (Nat×Nat)):List (Nat×AV)->Bool
  | []=>true
  |(i,x)::ps=>(match fs[i]? with
    | some (_,t)=>(match T t with | some j=>Nat.beq x.cells.length j.size | none=>false)
    | none=>false)&&FSq T fs ps
def In(T:Nat->Option Ar):List (Nat×Nat)->Bool
  | []=>true
  |(_,t)::fs=>(match T t with | some _=>true | none=>false)&&In T fs
theorem Dk{H:Ax}{ι:Ba}{s:Ai}{a:Act}{w:World}(hs:Sim H ι s a w): ∀{l:List (Nat×Operand)} {xs:List (Nat×AV)},Bv s.env l=some xs->
 xs.length=l.length/\∀(k:Nat) (p:Nat×AV) (q:Nat×Value),xs[k]?=some p->(l.map fun(i,x)=>(i,a.eval x))[k]?=some q->p.1=q.1/\Rel H ι p.2 q.2
 | [],xs,h=>by simp[Bv]at h;subst h;exact⟨rfl,fun k p q h=>by simp at h⟩
 |(i,y)::l,xs,h=>by
  unfold Bv at h;split at h
  . rename_i x ys h1 h2;simp at h;subst h;obtain⟨i1,i2⟩:=Dk hs h2;refine⟨by simp[i1],fun k p q g1 g2=>?_⟩
    cases k with
    | zero=>simp at g1 g2;subst g1;subst g2;exact⟨rfl,Am hs h1⟩
    | succ k=>simp only[List.getElem?_cons_succ,List.map_cons]at g1 g2;exact i2 k p q g1 g2
  . cases h
theorem Hy{e e':As}: ∀{l:List (Nat×Operand)},(∀x∈l.map (·.2),Ak e' x=Ak e x)->Bv e' l=Bv e l
 | [],_=>rfl
 |(i,x)::l,h=>by
  unfold Bv;rw[h x (by simp),Hy (l:=l) (fun y hy=>h y (by simp at hy |-;exact .inr hy))]
theorem Hd{fs:List (Nat×Nat)}: ∀{ps:List (Nat×AV)},FSq T fs ps=true->∀(k:Nat) (p:Nat×AV),ps[k]?=some p->∀(off t:Nat) (i':Ar),fs[p.1]?=some (off,t)->T t=some i'->p.2.cells.length=i'.size
 | [],_,k,p,h=>by simp at h
 |(i,x)::ps,hf,k,p,h=>by
  simp only[FSq,Bool.and_eq_true]at hf
  cases k with
  | zero=>
   simp at h;subst h;intro off t i' h1 h2;have:=hf.1;rw[h1]at this;simp only[h2]at this;exact Nat.eq_of_beq_eq_true this
  | succ k=>simp at h;exact Hd hf.2 k p h
theorem QL(hT:Cn P T){t:TypeId}{parts:Array (Nat×Operand)}{i:Ar}{fs:List (Nat×Nat)}{ps:List (Nat×AV)}{r:List AV}(ho:o.op= .build t parts)(hx:Bv e parts.toList=some ps)(hi:T t=some i)(hk:i.k= .struct fs)(hz:i.zero.length=i.size)(hp:0<i.size)
 (hfit:FSq T fs ps=true) (hall:In T fs=true) (hr:partCells fs ps i.zero=some r):QLoc P o e h [] (.agg r):=by
 intro H ι a w s hs g1 g2;have hx':Bv s.env parts.toList=some ps:=by
  exact cG
 obtain⟨l1,l2⟩:=Dk hs hx';obtain⟨info,d,e1,e2,e3,e4,e5,e6⟩:=Aj (hT _ _ hi);obtain⟨A,rfl,rfl,hzz⟩:=EC (P:=P) (d:=d) (e3▸hk);obtain⟨z,hz1,hz2⟩:=DM e6 hz hp;obtain⟨z1,z2⟩:=Dl (H:=H) (ι:=ι) hz2
 -- the places
 have hplaces: ∃places:Array (Nat×Nat),(A.mapM fun f=>(do pure (f.offset,<-sizeOf f.type):Sem (Nat×Nat))).run P w= .ok places w/\∀(i off t:Nat),(A.toList.map fun f=>(f.offset,f.type))[i]?=some (off,t)->∃i',T t=some i'/\places[i]?=some (off,i'.size):=by
  rw[Array.mapM_eq_mapM_toList];simp only[Sem.run_map];have hknown: ∀f∈A.toList,∃i',T f.type=some i':=by
   intro f hf;have: ∀(l:List (Nat×Nat)),In T l=true->∀p∈l,∃i',T p.2=some i':=by
    intro l
    induction l with
    | nil=>intro _ p hp;cases hp
    | cons q l ih=>
     intro hq p hp;obtain⟨oq,tq⟩:=q;simp only[In,Bool.and_eq_true]at hq;rcases List.mem_cons.1 hp with rfl | hp
     . have:=hq.1;simp only
       cases hh:T tq with
       | none=>rw[hh]at this;cases this
       | some i'=>exact⟨i',rfl⟩
     . exact ih hq.2 p hp
   exact this _ hall (f.offset,f.type) (List.mem_map.2 ⟨f,hf,rfl⟩)
  clear hall hfit hr l2 l1 hx' hx hk hzz e3 e2;generalize A.toList=fl at*
  suffices hh: ∃l:List (Nat×Nat),(fl.mapM fun f=>(do pure (f.offset,<-sizeOf f.type):Sem (Nat×Nat))).run P w= .ok l w/\∀(i off t:Nat),(fl.map fun f=>(f.offset,f.type))[i]?=some (off,t)->∃i',T t=some i'/\l[i]?=some (off,i'.size) by
   obtain⟨l,h1,h2⟩:=hh;exact⟨l.toArray,by rw[h1];rfl,fun i off t h3=>by obtain⟨i',h4,h5⟩:=h2 i off t h3;exact⟨i',h4,by simpa using h5⟩⟩
  induction fl with
  | nil=>exact⟨[],by simp,fun i off t h=>by simp at h⟩
  | cons f fl ih=>
   obtain⟨l,h1,h2⟩:=ih (fun g hg=>hknown g (by simp[hg]));obtain⟨i',hi'⟩:=hknown f (by simp);obtain⟨info',d',c1,c2,c3,c4,_⟩:=Aj (hT _ _ hi');refine⟨(f.offset,i'.size)::l,?_,fun k off t h3=>?_⟩
   . rw[List.mapM_cons];simp only[Sem.run_bind,Fq c1,Result.andThen_ok,Sem.run_pure,h1,c4]
   . cases k with
     | zero=>simp at h3;obtain⟨rfl,rfl⟩:=h3;exact⟨i',hi',rfl⟩
     | succ k=>simp only[List.map_cons,List.getElem?_cons_succ]at h3 |-;exact h2 k off t h3
 obtain⟨places,hpl1,hpl2⟩:=hplaces;obtain⟨vs,f1,f2,f3⟩:=NV (T:=T) (s:=s) (a:=a) (w:=w) hpl2 ps (parts.toList.map fun(i,x)=>(i,a.eval x)) i.zero z.cells r (by simp[l1]) (fun k p q k1 k2=>⟨(l2 k p q k1 k2).1,(l2 k p q k1 k2).2,Hd hfit k p k1⟩) (by simpa using z1) (fun j x v k1 k2=>z2 j x v k1 (by simpa using k2)) hr;refine⟨.agg vs,.agg _ _ _ f2 f3,?_⟩;have hparts:(parts.map fun(i,x)=>(i,a.eval x)).toList=parts.toList.map fun(i,x)=>(i,a.eval x):=by simp
 simp only[execOp,ho,Instr.build,zeroValue,typeInfo,Sem.run_bind,run_program,Result.andThen_ok,e1,hz1,Sem.run_pure,Al e2,hpl1,hparts,f1]
end
end Go.Proofs.YtbbfelelocccmaaGreat.Sv
namespace Go.Proofs.YtbbfelelocccmaaGreat.Sv
open Go
theorem NU{sz:Nat}: ∀(qs:List Value) (k:Nat) (cs:Array Value),(∀q∈qs,q.cells.size=sz)->(k+qs.length)*sz<=cs.size->
 ∃cs',Instr.fill (fun i=>some (i*sz,sz)) cs ((qs.zipIdx k).map fun p=>(p.2,p.1))=some cs'/\cs'.size=cs.size/\(∀x,x<k*sz->cs'[x]?=cs[x]?)/\
  ∀(i j:Nat) (q:Value),qs[i]?=some q->j<sz->cs'[(k+i)*sz+j]?=q.cells[j]?
 | [],k,cs,_,_=>⟨cs,rfl,rfl,fun _ _=>rfl,fun i j q h=>by simp at h⟩
 | q::qs,k,cs,hq,hl=>by
  have hsz:=hq q (by simp);have hle:k*sz+sz<=cs.size:=by
   have:(k+1)*sz<=(k+(q::qs).length)*sz:=Nat.mul_le_mul_right _ (by simp);rw[Nat.add_mul,Nat.one_mul]at this;omega
  have hfs:(q.cells.zipIdx.foldl (fun cs (c,j)=>cs.setIfInBounds (k*sz+j) c) cs)=((q.cells.toList.zipIdx 0).foldl (fun cs (c,j)=>cs.setIfInBounds (k*sz+j) c) cs):=by
   rw[<-Array.foldl_toList];simp
  have hget:=GB (k*sz) q.cells.toList 0 cs;obtain⟨cs',h1,h2,h3,h4⟩:=NU qs (k+1) (q.cells.zipIdx.foldl (fun cs (c,j)=>cs.setIfInBounds (k*sz+j) c) cs) (fun x hx=>hq x (by simp[hx])) (by rw[hfs,F0];simpa[Nat.add_assoc,Nat.add_comm 1]using hl);rw[hfs,F0]at h2;rw[hfs]at h3;refine⟨cs',?_,h2,fun x hx=>?_,fun i j q' hi hj=>?_⟩
  . rw[List.zipIdx_cons,List.map_cons];unfold Instr.fill;simp only;rw[if_neg (by simp only[Bool.or_eq_true,decide_eq_true_eq,not_or];exact⟨by simp[hsz],by omega⟩)];exact h1
  . rw[h3 x (by rw[Nat.add_mul];omega),hget,if_neg (by omega)]
  . cases i with
    | zero=>
     simp at hi;subst hi;simp only[Nat.add_zero];rw[h3 _ (by rw[Nat.add_mul,Nat.one_mul];omega),hget,if_pos (by simp only[Array.length_toList];omega)]
     simp
    | succ i=>
     have:=h4 i j q' (by simpa using hi) hj;rwa[Nat.add_assoc,Nat.add_comm 1 i]at this
def partVals:List (Nat×AV)->List (List AV)
  | []=>[]
  |(_,x)::ps=>x.cells::partVals ps
theorem He: ∀{ps:List (Nat×AV)} {i:Nat} {cs:List AV},(partVals ps)[i]?=some cs->∃p,ps[i]?=some p/\cs=p.2.cells
 | [],i,cs,h=>by simp[partVals]at h
 |(k,x)::ps,0,cs,h=>by simp[partVals]at h;exact⟨(k,x),rfl,h.symm⟩
 |(k,x)::ps,i+1,cs,h=>by simp only[partVals,List.getElem?_cons_succ]at h |-;exact He h
theorem Fg: ∀{ps:List (Nat×AV)},(partVals ps).length=ps.length
 | []=>rfl
 | _::ps=>by simp[partVals,Fg (ps:=ps)]
section
variable {P : Program} {T : Nat -> Option Ar} {o : Oper} {e : As} {h : Ab}
theorem HP(hT:Cn P T){t:TypeId}{len u:Nat}{i j:Ar}{qs:List Value}(hi:T t=some i)(hk:i.k= .slice u)(hj:T u=some j)(hz:j.zero.length=j.size)(hp:0<j.size)(w:World)(hlen:qs.length=len)(hsz: ∀q∈qs,q.cells.size=j.size)(hbig:len*j.size<=16777216):
 ∃c,(Instr.buildSlice t len (qs.zipIdx.map fun p=>(p.2,p.1)).toArray).run P w= .ok (.slice (some ⟨w.heap.size,0,none⟩) len len) (w.alloc (.cells c u))/\c.size=len*j.size/\
  ∀(i k:Nat) (q:Value),qs[i]?=some q->k<j.size->c[i*j.size+k]?=q.cells[k]?:=by
 obtain⟨info,d,e1,e2,e3,e4,e5,e6⟩:=Aj (hT _ _ hi);obtain⟨info',d',e1',e2',e3',e4',e5',e6'⟩:=Aj (hT _ _ hj);have hd:=Bn (P:=P) (d:=d) (e3▸hk);subst hd;obtain⟨z,hz1,hz2⟩:=DM e6' hz hp;have hbig': ¬(16777216<len*j.size):=by omega
 subst hlen;obtain⟨c,c1,c2,c3,c4⟩:=NU (sz:=j.size) qs 0 ((Array.range (qs.length*j.size)).map (z.cells[· %z.cells.size]!)) hsz (by simp);refine⟨c,?_,by simpa using c2,fun i k q h1 h2=>by have:=c4 i k q h1 h2;simpa using this⟩
 by_cases h0:qs.length*j.size=0
 . have hq:qs.length=0:=by
    rcases Nat.mul_eq_zero.1 h0 with h | h
    . exact h
    . omega
   have hq':qs=[]:=List.eq_nil_of_length_eq_zero hq;subst hq';simp[Instr.buildSlice,Al e2,Fq e1',e4',newRow,Instr.fill];have:c= #[]:=by
    have:=c2;simp at this;exact this
   subst this;have hz0:(Array.map (fun _=>default) (Array.range 0):Array Value)= #[]:=by apply Array.eq_empty_of_size_eq_zero;simp
   rw[hz0]
 . have h0': ¬(qs.length=0\/j.size=0):=by rw[<-Nat.mul_eq_zero];exact h0
   simp only[Instr.buildSlice,Al e2,Sem.run_bind,Result.andThen_ok,Fq e1',e4',show(2^24:Nat)=16777216 by rfl,gt_iff_lt,if_neg hbig',zeroValue,typeInfo,run_program,e1',hz1,Sem.run_pure,if_neg h0,Sem.run_ite];rw[c1];simp[newRow]
theorem WA{ps:List (Nat×AV)}{a:Act}{l:List (Nat×Operand)}(hidx:l.map (·.1)=List.range l.length):(l.map fun(i,x)=>(i,a.eval x))=((l.map fun p=>a.eval p.2).zipIdx).map fun p=>(p.2,p.1):=by
 apply List.ext_getElem?;intro k;simp only[List.getElem?_map,List.getElem?_zipIdx]
 cases hk:l[k]? with
 | none=>simp
 | some p=>
  have:(l.map (·.1))[k]?=some p.1:=by simp[hk]
  rw[hidx]at this;have hlt:k<l.length:=(List.getElem?_eq_some_iff.1 hk).1;rw[List.getElem?_range hlt]at this;simp at this;simp[this]
def E0(n:Nat):List (Nat×AV)->Bool
  | []=>true
  |(_,x)::ps=>Nat.beq x.cells.length n&&E0 n ps
theorem Eg{n:Nat}: ∀{ps:List (Nat×AV)},E0 n ps=true->∀(k:Nat) (p:Nat×AV),ps[k]?=some p->p.2.cells.length=n
 | [],_,k,p,h=>by simp at h
 |(i,x)::ps,hs,k,p,h=>by
  simp only[E0,Bool.and_eq_true]at hs
  cases k with
  | zero=>simp at h;subst h;exact Nat.eq_of_beq_eq_true hs.1
  | succ k=>simp at h;exact Eg hs.2 k p h
theorem Pv(hT:Cn P T){H:Ax}{ι:Ba}{s:Ai}{a:Act}{w:World}(hs:Sim H ι s a w){l:List (Nat×Operand)}{ps:List (Nat×AV)}(hx:Bv s.env l=some ps){n:Nat}(hsz:E0 n ps=true)(h1:(partVals ps).all (·.all AV.cell1)=true)
 {c:Array Value} (hc: ∀(i k:Nat) (q:Value),(l.map fun p=>a.eval p.2)[i]?=some q->k<n->c[i*n+k]?=q.cells[k]?):
 (∀q∈l.map fun p=>a.eval p.2,q.cells.size=n)/\rowCells H ι n (partVals ps) c:=by
 obtain⟨l1,l2⟩:=Dk hs hx;have hq: ∀(k:Nat) (p:Nat×AV),ps[k]?=some p->∃q,(l.map fun p=>a.eval p.2)[k]?=some q/\Rel H ι p.2 q:=fun k p hk=>by
  have hlt:k<l.length:=by rw[<-l1];exact(List.getElem?_eq_some_iff.1 hk).1
  refine⟨a.eval l[k].2,by simp[hlt],(l2 k p (l[k].1,a.eval l[k].2) hk (by simp[hlt])).2⟩
 refine⟨fun q hq'=>?_,fun i cs hi=>?_,fun i cs j x hi hj=>?_⟩
 . obtain⟨k,hk⟩:=List.getElem?_of_mem hq';have hlt:k<ps.length:=by rw[l1];have:=(List.getElem?_eq_some_iff.1 hk).1;simpa using this
   obtain⟨q',h2,h3⟩:=hq k ps[k] (List.getElem?_eq_getElem hlt);rw[hk]at h2;cases h2;rw[<-(FD h3).1];exact Eg hsz k _ (List.getElem?_eq_getElem hlt)
 . obtain⟨p,hp,rfl⟩:=He hi;exact Eg hsz i p hp
 . obtain⟨p,hp,rfl⟩:=He hi;obtain⟨q,h2,h3⟩:=hq i p hp;obtain⟨c1,c2⟩:=FD h3;have hjl:j<p.2.cells.length:=(List.getElem?_eq_some_iff.1 hj).1;have hjn:j<n:=by rw[<-Eg hsz i p hp];exact hjl
   obtain⟨v,hv⟩:=Br (c:=q.cells) (j:=j) (by omega);refine⟨v,by rw[hc i j q h2 hjn];exact hv,c2 j x v hj hv,?_⟩;have:=List.all_eq_true.1 h1 _ (List.mem_of_getElem? hi);exact List.all_eq_true.1 this x (List.mem_of_getElem? hj)
theorem HA{t:TypeId}{len:Nat}{parts:Array (Nat×Operand)}{a:Act}{w:World}{v:Value}{w':World}(ho:o.op= .buildSlice t len parts)(hidx:parts.toList.map (·.1)=List.range parts.toList.length)
 (hrun:(Instr.buildSlice t len (((parts.toList.map fun p=>a.eval p.2).zipIdx).map fun p=>(p.2,p.1)).toArray).run P w= .ok v w'):(execOp a.eval o).run P w= .ok (.value v) w':=by
 have hparts:(parts.map fun(i,x)=>(i,a.eval x))=(((parts.toList.map fun p=>a.eval p.2).zipIdx).map fun p=>(p.2,p.1)).toArray:=by
  apply Array.ext';rw[<-WA (ps:=[]) hidx]
  simp
 simp only[execOp,ho,hparts,Sem.run_bind,hrun,Result.andThen_ok,Sem.run_pure]
theorem nC(hT:Cn P T){t:TypeId}{len u:Nat}{parts:Array (Nat×Operand)}{ps:List (Nat×AV)}{i j:Ar}(ho:o.op= .buildSlice t len parts)(hx:Bv e parts.toList=some ps)(hi:T t=some i)(hk:i.k= .slice u)(hj:T u=some j)(hz:j.zero.length=j.size)(hp:0<j.size)
 (hidx:parts.toList.map (·.1)=List.range parts.toList.length) (hlen:parts.toList.length=len) (hsz:E0 j.size ps=true) (h1:(partVals ps).all (·.all AV.cell1)=true) (hpure:(partVals ps).all (·.all AV.isPure1)=true) (hbig:Nat.ble (len*j.size) 16777216=true):
 OLoc P o e h [] [] (some (.lst true (partVals ps))):=by
 intro H ι a w s Q hs g1 g2;have hx':Bv s.env parts.toList=some ps:=by
  exact cG
 obtain⟨l1,l2⟩:=Dk hs hx';have hqs: ∀q∈parts.toList.map fun p=>a.eval p.2,q.cells.size=j.size:=fun q hq=>by
  exact jN
 obtain⟨c,c1,c2,c3⟩:=HP hT hi hk hj hz hp w (len:=len) (by rw[List.length_map];exact hlen) hqs (Nat.le_of_ble_eq_true hbig);obtain⟨_,d1,d2⟩:=Pv hT hs hx' hsz h1 c3;obtain⟨u1,u2,u3⟩:=hs.heap.know_new c u;have hexec:=HA ho hidx c1;unfold Oper.wp;rw[hexec];refine⟨_,_,ι,rfl,(fun x ex=>?_),u1,u2⟩
 cases ex
 have hpl:(partVals ps).length=len:=by rw[Fg,l1];exact hlen
 by_cases h0:len=0
 . have:partVals ps=[]:=List.eq_nil_of_length_eq_zero (by omega);rw[this,h0];exact .lst0 _ _ _ _ (fun _=>rfl) (Nat.zero_le _) (fun h=>by cases h) trivial
 . have hml:len<=maxLen:=by
    have:len*1<=len*j.size:=Nat.mul_le_mul_left _ hp;have h2:=Nat.le_of_ble_eq_true hbig;simp only[maxLen];omega
   have:=Rel.lst (H:=Jw H w.heap.size c) ι true (partVals ps) w.heap.size 0 len j.size c (fun i k=>(c[i*j.size+k]?).getD undef) (fun hh=>by rw[hh]at hpl;simp at hpl;omega) (FA _ _ _) d1
    (fun i cs k x q1 q2=>by obtain⟨v,f1,_⟩:=d2 i cs k x q1 q2;rw[Nat.zero_add,f1];rfl)
    (fun i cs k x q1 q2=>by
     obtain⟨v,f1,f2,_⟩:=d2 i cs k x q1 q2;rw[f1];have hpp:=List.all_eq_true.1 hpure _ (List.mem_of_getElem? q1);exact(CU (List.all_eq_true.1 hpp x (List.mem_of_getElem? q2)) f2).mono u3 (LLe.refl _))
    (fun i cs k x q1 q2=>by obtain⟨v,_,_,f3⟩:=d2 i cs k x q1 q2;exact f3) (fun _=>hpl.symm) (by omega) hml
   rw[hpl]at this;exact this
theorem o_litRow(hT:Cn P T){t:TypeId}{len u:Nat}{parts:Array (Nat×Operand)}{ps:List (Nat×AV)}{i j:Ar}(b:Nat)(p:Bool)(ho:o.op= .buildSlice t len parts)(hx:Bv e parts.toList=some ps)(hi:T t=some i)(hk:i.k= .slice u)(hj:T u=some j)(hz:j.zero.length=j.size)(hp:0<j.size)
 (hidx:parts.toList.map (·.1)=List.range parts.toList.length) (hlen:parts.toList.length=len) (hsz:E0 j.size ps=true) (h1:(partVals ps).all (·.all AV.cell1)=true) (hpure:p=true->(partVals ps).all (·.all AV.isPure1)=true) (hbig:Nat.ble (len*j.size) 16777216=true) (hb:h b=some .free):
 OLoc P o e h [b] [(b,.row p j.size (partVals ps))] (some (.ref b len 0 len)):=by
 refine DL hb (by simp) hp fun H ι a w s hs g1 g2=>?_
 have hx':Bv s.env parts.toList=some ps:=by
  exact cG
 obtain⟨l1,l2⟩:=Dk hs hx';have hqs: ∀q∈parts.toList.map fun p=>a.eval p.2,q.cells.size=j.size:=fun q hq=>by
  exact jN
 obtain⟨c,c1,c2,c3⟩:=HP hT hi hk hj hz hp w (len:=len) (by rw[List.length_map];exact hlen) hqs (Nat.le_of_ble_eq_true hbig);obtain⟨_,d1,d2⟩:=Pv hT hs hx' hsz h1 c3;have hpl:(partVals ps).length=len:=by rw[Fg,l1];exact hlen
 have hml:len<=maxLen:=by
  have:len*1<=len*j.size:=Nat.mul_le_mul_left _ hp;have h2:=Nat.le_of_ble_eq_true hbig;simp only[maxLen];omega
 refine⟨_,c,u,w,rfl,rfl,rfl,by rw[hpl,c2];exact Nat.le_refl _,⟨d1,fun i cs k x q1 q2=>?_⟩,HA ho hidx c1,?_⟩
 . obtain⟨v,f1,f2,f3⟩:=d2 i cs k x q1 q2;refine⟨v,f1,?_,f3⟩
   cases p with
   | false=>exact f2
   | true=>
    have hpp:=List.all_eq_true.1 (hpure rfl) _ (List.mem_of_getElem? q1);exact CU (List.all_eq_true.1 hpp x (List.mem_of_getElem? q2)) f2
 . have:=Rel.refL (H:=H) (Dp ι b ⟨w.heap.size,j.size,(partVals ps).length,c.size⟩) b len 0 len len _ (Bb _ _ _) hpl (by omega) (Nat.le_refl _) (by simp[c2]) hml;simpa using this
theorem HT(hT:Cn P T){t:TypeId}{x:Operand}{lo hi:Option Operand}{ex:Bool}{es:List (List AV)}{i j:Ar}{u:Nat}(l m:Nat)(ho:o.op= .slice t x lo hi none)(hx:Ak e x=some (.lst ex es))(ht:T t=some i)(hk:i.k= .slice u)(hj:T u=some j)
 (hl:match lo with | none=>l=0 | some y=>∃k,Ak e y=some (.int k (l:Int))) (hm:match hi with | none=>m=es.length | some y=>∃k,Ak e y=some (.int k (m:Int))) (hlm:l<=m) (hme:m<=es.length) (hu: ∀cs∈es,cs.length=j.size):
 QLoc P o e h [] (.lst (ex&&Nat.beq m es.length) ((es.take m).drop l)):=by
 intro H ι a w s hs g1 g2;have hx':Ak s.env x=some (.lst ex es):=by rw[g1 x (by rw[ho];simp[Op.operands]),hx]
 obtain⟨info,d,e1,e2,e3,e4,e5,e6⟩:=Aj (hT _ _ ht);obtain⟨info',d',e1',e2',e3',e4',e5',e6'⟩:=Aj (hT _ _ hj);have hd:=Bn (P:=P) (d:=d) (e3▸hk);subst hd;have hvx:=Am hs hx';generalize hva:a.eval x=va at hvx;have hlo:(lo.map a.eval)=none/\l=0\/∃k,lo.map a.eval=some (.int k (l:Int)):=by
  cases lo with
  | none=>exact .inl ⟨rfl,hl⟩
  | some y=>
   obtain⟨k,hk⟩:=hl;exact .inr ⟨k,by simp only[Option.map_some,Option.some.injEq];exact(Am hs (by rw[g1 y (by rw[ho];simp[Op.operands])];exact hk)).int_inv⟩
 have hhi:(hi.map a.eval)=none/\m=es.length\/∃k,hi.map a.eval=some (.int k (m:Int)):=by
  cases hi with
  | none=>exact .inl ⟨rfl,hm⟩
  | some y=>
   obtain⟨k,hk⟩:=hm;exact .inr ⟨k,by simp only[Option.map_some,Option.some.injEq];exact(Am hs (by rw[g1 y (by rw[ho];simp[Op.operands])];exact hk)).int_inv⟩
 have hrun: ∀(ad:Option Addr) (cap:Nat),m<=cap->va= .slice ad es.length cap->(execOp a.eval o).run P w= .ok (.value (.slice (if cap=l then ad else ad.map (·.add (l*j.size))) (m-l) (cap-l))) w:=fun ad cap hcap hv=>by
  have hb:(Instr.sliceBounds true es.length cap (lo.map a.eval) (hi.map a.eval) none).run P w= .ok (l,m,cap) w:=by
   rcases hlo with⟨q1,q2⟩ |⟨k,q1⟩<;>rcases hhi with⟨q3,q4⟩ |⟨k',q3⟩<;>rw[q1,q3]
   . subst q2;subst q4;simp[Instr.sliceBounds]
   . subst q2;simp[Instr.sliceBounds,Instr.sliceBound,asIntOf,hcap]
   . subst q4;simp[Instr.sliceBounds,Instr.sliceBound,asIntOf,hlm]
   . simp[Instr.sliceBounds,Instr.sliceBound,asIntOf,hcap,hlm]
  simp only[execOp,ho,hva,hv,Instr.sliceAt,Instr.slice,Option.map_none,Sem.run_bind,Al e2,Result.andThen_ok,hb,Fq e1',e4',Sem.run_pure]
 have hlenr:((es.take m).drop l).length=m-l:=by simp;omega
 rcases hvx.lst_inv with⟨rfl,ad,cap,rfl,h1,h2,h3,h4⟩ |⟨hne,b,off,cap,sz,c,vals,rfl,hb,hsz',hv,hr,hc1,hex,hcap,hmax⟩
 . simp at hme;subst hme;have hl0:l=0:=by omega
   subst hl0;refine⟨_,?_,hrun ad cap (Nat.zero_le _) rfl⟩;have hadd:(if cap=0 then ad else ad.map (·.add (0*j.size)))=ad:=by
    split
    . rfl
    . cases ad<;>simp[Addr.add]
   rw[hadd];simp only[List.take_nil,List.drop_nil,List.length_nil,Nat.sub_zero];have:Nat.beq 0 0=true:=rfl;rw[this,Bool.and_true];exact .lst0 _ _ _ _ h1 h2 h3 h4
 . refine⟨_,?_,hrun _ cap (by omega) rfl⟩;have hss:sz=j.size:=by
    exact f0
   by_cases hemp:m-l=0
   . have:(es.take m).drop l=[]:=List.eq_nil_of_length_eq_zero (by omega);rw[this,hemp];refine .lst0 _ _ _ _ (fun hx=>?_) (by omega) (fun hx=>?_) trivial
     . simp only[Bool.and_eq_true]at hx;have:=Nat.eq_of_beq_eq_true hx.2;have:=hex hx.1;omega
     . split at hx<;>simp at hx
   . have hcl: ¬cap=l:=by omega
     rw[if_neg hcl];simp only[Option.map_some,ER];have hg: ∀(k:Nat) (cs:List AV),((es.take m).drop l)[k]?=some cs->es[l+k]?=some cs:=fun k cs hk=>by
      rw[List.getElem?_drop]at hk;have hlt:l+k<m:=by
       rcases Nat.lt_or_ge (l+k) m with h | h
       . exact h
       . rw[List.getElem?_eq_none (by simp;omega)]at hk;cases hk
      rwa[List.getElem?_take_of_lt hlt]at hk
     have:=Rel.lst (H:=H) ι (ex&&Nat.beq m es.length) ((es.take m).drop l) b (off+l*j.size) (cap-l) sz c (fun k q=>vals (l+k) q) (fun hh=>by rw[hh]at hlenr;simp at hlenr;omega) hb
      (fun k cs hk=>hsz' _ cs (hg k cs hk)) (fun k cs q x hk hq=>by
       have:=hv (l+k) cs q x (hg k cs hk) hq;rw[Nat.add_mul]at this;rw[<-hss];rwa[show off+l*sz+k*sz+q=off+(l*sz+k*sz)+q by omega])
      (fun k cs q x hk hq=>hr _ cs q x (hg k cs hk) hq) (fun k cs q x hk hq=>hc1 _ cs q x (hg k cs hk) hq)
      (fun hx=>by
       simp only[Bool.and_eq_true]at hx;have:=Nat.eq_of_beq_eq_true hx.2;have:=hex hx.1;omega) (by omega) (by omega)
     rw[hlenr]at this;exact this
end
end Go.Proofs.YtbbfelelocccmaaGreat.Sv
namespace Go.Proofs.YtbbfelelocccmaaGreat.Sv
open Go
def Ghost(s s':Ai):Prop:=∀H ι a w,Sim H ι s a w->∃H' ι',Sim H' ι' s' a w/\Step H ι s.h w H' ι' s'.h w
section
variable {P : Program} {s s' : Ai} {Q : Exit -> Ai -> Prop} {K : Ai -> Prop} {ops : Array Oper} {l : List Oper}
theorem AGo.ghost{c:Code}(hg:Ghost s s')(h:AGo P c s' Q):AGo P c s Q:=fun H ι a w hs=>by
 obtain⟨H',ι',h1,h2⟩:=hg H ι a w hs;exact wp_mono (h H' ι' a w h1) fun e a' w' hp=>Post.step hs.heap h1.heap h2 hp
theorem Ghost.of_sub(h:Sub s' s):Ghost s s':=fun H ι a w hs=>by
 refine⟨H,ι,hs.sub h,⟨Nat.le_refl _,rfl,rfl,fun _ _ _=>rfl,KLe.refl _,fun _ h=>.inl h,LLe.refl _,fun _ _=>rfl,fun _ _ h _=>.inl h,fun b hb=>?_⟩⟩
 cases e:s'.h b with
 | none=>rfl
 | some o=>rw[h.2.2 b o e]at hb;cases hb
theorem AGo.sub{c:Code}(hg:Sub s' s)(h:AGo P c s' Q):AGo P c s Q:=AGo.ghost (.of_sub hg) h
theorem Sub.refl(s:Ai):Sub s s:=⟨rfl,fun _ _ h=>h,fun _ _ h=>h⟩
theorem Sub.trans{a b c:Ai}(h1:Sub a b)(h2:Sub b c):Sub a c:=⟨h1.1.trans h2.1,fun t x h=>h2.2.1 t x (h1.2.1 t x h),fun b o h=>h2.2.2 b o (h1.2.2 b o h)⟩
def ESub(e e':As):Prop:=∀t x,e t=some x->e' t=some x
def HSub(h h':Ab):Prop:=∀b o,h b=some o->h' b=some o
theorem Sub.mk'{n:Nat}{e e':As}{h h':Ab}(h1:ESub e e')(h2:HSub h h'):Sub ⟨n,e,h⟩ ⟨n,e',h'⟩:=⟨rfl,h1,h2⟩
theorem ESub.new(e:As):ESub A8 e:=fun _ _ h=>by cases h
theorem ESub.refl(e:As):ESub e e:=fun _ _ h=>h
theorem ESub.put{e e':As}{t:Nat}{v:AV}(h:ESub e e')(hv:e' t=some v):ESub (Aa e t v) e':=fun u x hx=>by
 by_cases hu:u=t
 . subst hu;rw[Cm]at hx;cases hx;exact hv
 . rw[DU _ _ hu]at hx;exact h u x hx
theorem HSub.refl(h:Ab):HSub h h:=fun _ _ h=>h
theorem HSub.put{h h':Ab}{b:Nat}{o:AObj}(hh:HSub h h')(ho:h' b=some o):HSub (hput h b o) h':=fun c x hx=>by
 by_cases hc:c=b
 . subst hc;rw[Ap]at hx;cases hx;exact ho
 . rw[AF _ _ hc]at hx;exact hh c x hx
def Bw(k:Nat):Ab:=fun b=>bif Nat.blt b k then none else some .free
def hNone:Ab:=fun _=>none
theorem HSub.none(h:Ab):HSub hNone h:=fun _ _ h=>by cases h
theorem AL(k:Nat):HSub (Bw k) hNew:=fun b o h=>by
 simp only[Bw]at h
 cases hb:Nat.blt b k with
 | true=>rw[hb]at h;cases h
 | false=>rw[hb]at h;exact h
theorem AG{j k:Nat}(hjk:j<=k):HSub (Bw k) (Bw j):=fun b o h=>by
 simp only[Bw]at h |-
 cases hb:Nat.blt b k with
 | true=>rw[hb]at h;cases h
 | false=>
  rw[hb]at h;have:Nat.blt b j=false:=by
   cases hb':Nat.blt b j with
   | false=>rfl
   | true=>
    rw[Nat.blt_eq]at hb';have:Nat.blt b k=true:=by rw[Nat.blt_eq];omega
    rw[this]at hb;cases hb
  rw[this];exact h
theorem AK{h:Ab}{k b:Nat}{o:AObj}(hh:HSub (Bw k) h)(hb:b<k):HSub (Bw k) (hput h b o):=fun c x hx=>by
 by_cases hc:c=b
 . subst hc;simp only[Bw]at hx;have:Nat.blt c k=true:=by rw[Nat.blt_eq];exact hb
   rw[this]at hx;cases hx
 . rw[AF _ _ hc];exact hh c x hx
theorem HeapRel.dry{H:Ax}{ι:Ba}{h:Ab}{w:World}(hr:HeapRel H ι h w){b:Nat}(hb:h b=some .free)(p:Bool){sz:Nat}(hsz:0<sz):
 HeapRel H (Dp ι b ⟨0,sz,0,0⟩) (hput h b (.row p sz [])) w/\Step H ι h w H (Dp ι b ⟨0,sz,0,0⟩) (hput h b (.row p sz [])) w:=
 hr.upd (o0:=.free) hb rfl (.inl rfl) (fun hs=>absurd rfl hs) (fun _ _ _=>rfl) (Nat.le_refl _) rfl rfl ⟨rfl,hsz,rfl,by simp,fun i cs h=>by simp at h,fun hs=>absurd rfl hs⟩
def PF:AV->Bool
  | .nil=>true
  | .lst true []=>true
  | _=>false
theorem Wi{H:Ax}{ι:Ba}{x:AV}{v:Value}(hd:PF x=true)(h:Rel H ι x v){b:Nat}{r:Ent}(hr:ι b=some r)(hn:r.n=0)(hc:r.csz=0):Rel H ι (.ref b 0 0 0) v:=by
 cases x with
 | nil=>rw[h.nil_inv];exact .ref0 _ b r none hr hn hc trivial
 | lst ex es=>
  cases ex with
  | false=>simp[PF]at hd
  | true=>
   cases es with
   | cons=>simp[PF]at hd
   | nil=>
    rcases h.lst_inv with⟨_,ad,cap,rfl,h1,h2,h3,h4⟩ |⟨hne,_⟩
    . have:=h1 rfl;subst this;exact .ref0 _ b r ad hr hn hc h4
    . exact absurd rfl hne
 | _=>simp[PF]at hd
theorem Ghost.dry{n:Nat}{e:As}{h:Ab}(t b sz:Nat)(p:Bool){x:AV}(hx:e t=some x)(hd:PF x=true)(hb:h b=some .free)(hsz:0<sz):Ghost ⟨n,e,h⟩ ⟨n,Aa e t (.ref b 0 0 0),hput h b (.row p sz [])⟩:=fun H ι a w hs=>by
 obtain⟨u1,u2⟩:=hs.heap.dry hb p hsz;refine⟨H,_,⟨hs.n,hs.d,fun u y hy=>?_,u1⟩,u2⟩
 by_cases hu:u=t
 . subst hu;simp only[Cm,Option.some.injEq]at hy;subst hy;obtain⟨v,h1,h2⟩:=hs.env u x hx;exact⟨v,h1,Wi hd (h2.mono (KLe.refl _) u2.lle) (Bb _ _ _) rfl rfl⟩
 . simp only[DU _ _ hu]at hy;obtain⟨v,h1,h2⟩:=hs.env u y hy;exact⟨v,h1,h2.mono (KLe.refl _) u2.lle⟩
theorem HeapRel.recell{H:Ax}{ι:Ba}{h:Ab}{w:World}(hr:HeapRel H ι h w){b:Nat}{sz:Nat}{es:List (List AV)}{p:Bool}(hb:h b=some (.row p sz es)){i j:Nat}{cs:List AV}{x y:AV}(hi:es[i]?=some cs)(hj:cs[j]?=some x)
 (hxy: ∀v,Rel H (bif p then AQ else ι) x v->Rel H (bif p then AQ else ι) y v) (h1:y.cell1=true):HeapRel H ι (hput h b (.row p sz (es.set i (cs.set j y)))) w/\Step H ι h w H ι (hput h b (.row p sz (es.set i (cs.set j y)))) w:=by
 obtain⟨r,hl,⟨r1,r2,r3,r4,r5,r6⟩,r7⟩:=hr.obj b _ hb rfl;have hlput:Dp ι b r=ι:=by
  funext c
  by_cases hc:c=b
  . subst hc;rw[Bb,hl]
  . rw[C7 _ _ hc]
 have hilt:i<es.length:=(List.getElem?_eq_some_iff.1 hi).1;have hjlt:j<cs.length:=(List.getElem?_eq_some_iff.1 hj).1;have hget: ∀(k:Nat) (ds:List AV),(es.set i (cs.set j y))[k]?=some ds->(k=i/\ds=cs.set j y)\/(k≠i/\es[k]?=some ds):=fun k ds hk=>by
  exact jk
 have hu: ∀(k:Nat) (ds:List AV),(es.set i (cs.set j y))[k]?=some ds->ds.length=sz:=fun k ds hk=>by
  rcases hget k ds hk with⟨rfl,rfl⟩ |⟨_,hk'⟩
  . rw[List.length_set];exact r5 k cs hi
  . exact r5 k ds hk'
 have:=hr.upd (w':=w) (o0:=.row p sz es) (o':=.row p sz (es.set i (cs.set j y))) (r':=r) hb rfl (.inr ⟨r,hl,rfl,.inl rfl⟩) (fun hs'=>.inr ⟨r,hl,rfl,hs',rfl⟩) (fun _ _ _=>rfl) (Nat.le_refl _) rfl rfl
  ⟨r1,r2,by simp[r3],by simp;exact r4,hu,fun hsol=>by
   obtain⟨c,TT,w1,w2,w3⟩:=r6 hsol;refine⟨c,TT,w1,w2,hu,fun k ds q z hk hq=>?_⟩;rw[hlput];rcases hget k ds hk with⟨rfl,rfl⟩ |⟨_,hk'⟩
   . by_cases hqj:q=j
     . subst hqj;rw[List.getElem?_set_self hjlt]at hq;cases hq;obtain⟨v,f1,f2,f3⟩:=w3.2 k cs q x hi hj;exact⟨v,f1,hxy v f2,h1⟩
     . rw[List.getElem?_set_ne (Ne.symm hqj)]at hq;exact w3.2 k cs q z hi hq
   . exact w3.2 k ds q z hk' hq⟩
 rwa[hlput]at this
theorem Ghost.dryCell{n:Nat}{e:As}{h:Ab}(b0 i j b sz:Nat)(p:Bool){sz0:Nat}{es:List (List AV)}{cs:List AV}{x:AV}(hb0:h b0=some (.row false sz0 es))(hi:es[i]?=some cs)(hj:cs[j]?=some x)(hd:PF x=true)(hb:h b=some .free)(hsz:0<sz):
 Ghost ⟨n,e,h⟩ ⟨n,e,hput (hput h b (.row p sz [])) b0 (.row false sz0 (es.set i (cs.set j (.ref b 0 0 0))))⟩:=fun H ι a w hs=>by
 obtain⟨u1,u2⟩:=hs.heap.dry hb p hsz;have hne:b0≠b:=fun hh=>by subst hh;rw[hb0]at hb;cases hb
 obtain⟨v1,v2⟩:=u1.recell (b:=b0) (p:=false) (y:=.ref b 0 0 0) (by rw[AF _ _ hne];exact hb0) hi hj (fun v hv=>Wi hd hv (Bb _ _ _) rfl rfl) rfl;refine⟨H,_,⟨hs.n,hs.d,fun u y hy=>?_,v1⟩,u2.trans hs.heap u1 v2⟩;obtain⟨v,h1,h2⟩:=hs.env u y hy;exact⟨v,h1,h2.mono (KLe.refl _) u2.lle⟩
def hrm(h:Ab)(b:Nat):Ab:=fun x=>bif Nat.beq x b then none else h x
theorem FY(h:Ab)(b:Nat):hrm h b b=none:=by simp[hrm]
theorem EL(h:Ab){b x:Nat}(hne:x≠b):hrm h b x=h x:=by simp only[hrm,Af hne,cond_false]
theorem HeapRel.freeze{H:Ax}{ι:Ba}{h:Ab}{w:World}(hr:HeapRel H ι h w){b sz:Nat}{es:List (List AV)}(hb:h b=some (.row true sz es)):
 ∃H',HeapRel H' ι (hrm h b) w/\Step H ι h w H' ι (hrm h b) w/\KLe H H'/\∀(ι':Ba) (v:Value) (off len:Nat),Rel H ι (.ref b es.length off len) v->Rel H' ι' (.lst false ((es.drop off).take len)) v:=by
 obtain⟨r,hl,⟨r1,r2,r3,r4,r5,r6⟩,r7⟩:=hr.obj b _ hb rfl;have hsubh: ∀x o,hrm h b x=some o->h x=some o:=fun x o hx=>by
  exact fV
 have hdom: ∀x,h x=none->hrm h b x=none:=fun x hx=>by
  cases e:hrm h b x with
  | none=>rfl
  | some o=>rw[hsubh x o e]at hx;cases hx
 by_cases hsol:r.csz=0
 . refine⟨H,hr.sub hsubh,⟨Nat.le_refl _,rfl,rfl,fun _ _ _=>rfl,KLe.refl _,fun _ h=>.inl h,LLe.refl _,fun _ _=>rfl,fun _ _ h _=>.inl h,hdom⟩,KLe.refl _,fun ι' v off len hv=>?_⟩;obtain⟨h0,ad,rfl,hsp⟩:=hv.ref_dry hl (by omega) hsol (by omega);subst h0;simp only[List.take_zero];exact .lst0 _ _ _ _ (fun h=>by cases h) (Nat.zero_le _) (fun _=>rfl) hsp
 . obtain⟨c,TT,w1,w2,w3⟩:=r6 hsol;have hnone:H r.rb=none:=r7 hsol;have hkle:KLe H (Jw H r.rb c):=fun x c' e=>by
    rw[Em _ _ (fun hx=>by subst hx;rw[hnone]at e;cases e)];exact e
   have hsub:=hr.sub hsubh;refine⟨Jw H r.rb c,⟨fun x c' e=>?_,hsub.free,fun x o h1 h2=>?_,hsub.inj,hr.glob.mono hkle⟩,⟨Nat.le_refl _,rfl,rfl,fun _ _ _=>rfl,hkle,fun x hx=>?_,LLe.refl _,fun _ _=>rfl,fun _ _ h _=>.inl h,hdom⟩,hkle,fun ι' v off len hv=>?_⟩
   . by_cases hx:x=r.rb
     . subst hx;rw[FA]at e;cases e;obtain⟨fr,w1',_⟩:=w1;exact⟨TT,fr,w1'⟩
     . rw[Em _ _ hx]at e;exact hr.know x c' e
   . obtain⟨r',e1,e2,e3⟩:=hsub.obj x o h1 h2;exact jz
   . by_cases hx':x=r.rb
     . subst hx';exact .inr (.inr ⟨b,_,r,hb,rfl,hl,hsol,rfl⟩)
     . rw[Em _ _ hx']at hx;exact .inl hx
   . obtain⟨hlen,cap,rfl,hlc,hcap,hmax⟩:=hv.ref_live hl (by omega) hsol;have hll:((es.drop off).take len).length=len:=by simp;omega
     by_cases h0:len=0
     . subst h0;simp only[List.take_zero];exact .lst0 _ _ _ _ (fun h=>by cases h) hmax (fun h=>by cases h) trivial
     . have hg: ∀(k:Nat) (cs:List AV),((es.drop off).take len)[k]?=some cs->es[off+k]?=some cs:=fun k cs hk=>by
        have hlt:k<len:=by
         rcases Nat.lt_or_ge k len with h | h
         . exact h
         . rw[List.getElem?_eq_none (by omega)]at hk;cases hk
        rwa[List.getElem?_take_of_lt hlt,List.getElem?_drop]at hk
       have:=Rel.lst (H:=Jw H r.rb c) ι' false ((es.drop off).take len) r.rb (off*r.sz) cap sz c (fun k q=>(c[(off+k)*sz+q]?).getD undef) (fun hh=>by rw[hh]at hll;simp at hll;omega) (FA _ _ _)
        (fun k cs hk=>r5 _ cs (hg k cs hk)) (fun k cs q x hk hq=>by
         obtain⟨u,f1,_⟩:=w3.2 (off+k) cs q x (hg k cs hk) hq;rw[r1,<-Nat.add_mul,f1];rfl)
        (fun k cs q x hk hq=>by
         obtain⟨u,f1,f2,_⟩:=w3.2 (off+k) cs q x (hg k cs hk) hq;rw[f1];exact f2.mono hkle (LLe.refl _))
        (fun k cs q x hk hq=>by obtain⟨u,_,_,f3⟩:=w3.2 (off+k) cs q x (hg k cs hk) hq;exact f3) (fun h=>by cases h) (by omega) hmax
       rw[hll]at this;exact this
theorem Ghost.freeze{n:Nat}{e:As}{h:Ab}(t b:Nat){m off len sz:Nat}{es:List (List AV)}(ht:e t=some (.ref b m off len))(hb:h b=some (.row true sz es))(hm:m=es.length):
 Ghost ⟨n,e,h⟩ ⟨n,Aa e t (.lst false ((es.drop off).take len)),hrm h b⟩:=fun H ι a w hs=>by
 obtain⟨H',u1,u2,u3,u4⟩:=hs.heap.freeze hb;subst hm;refine⟨H',ι,⟨hs.n,hs.d,fun u y hy=>?_,u1⟩,u2⟩
 by_cases hu:u=t
 . subst hu;simp only[Cm,Option.some.injEq]at hy;subst hy;obtain⟨v,h1,h2⟩:=hs.env u _ ht;exact⟨v,h1,u4 ι v off len h2⟩
 . simp only[DU _ _ hu]at hy;obtain⟨v,h1,h2⟩:=hs.env u y hy;exact⟨v,h1,h2.mono u3 (LLe.refl _)⟩
theorem Ghost.freezeCell{n:Nat}{e:As}{h:Ab}(b0 i j b:Nat){sz0 m off len sz:Nat}{es0:List (List AV)}{cs:List AV}{es:List (List AV)}(hb0:h b0=some (.row false sz0 es0))(hi:es0[i]?=some cs)(hj:cs[j]?=some (.ref b m off len))(hb:h b=some (.row true sz es))(hm:m=es.length)(hne:b0≠b):
 Ghost ⟨n,e,h⟩ ⟨n,e,hput (hrm h b) b0 (.row false sz0 (es0.set i (cs.set j (.lst false ((es.drop off).take len)))))⟩:=fun H ι a w hs=>by
 subst hm;obtain⟨r,hl,⟨r1,r2,r3,r4,r5,r6⟩,r7⟩:=hs.heap.obj b0 _ hb0 rfl;obtain⟨H',u1,u2,u3,u4⟩:=hs.heap.freeze hb;have hilt:i<es0.length:=(List.getElem?_eq_some_iff.1 hi).1;have hjlt:j<cs.length:=(List.getElem?_eq_some_iff.1 hj).1;have hlput:Dp ι b0 r=ι:=by
  funext c
  by_cases hc:c=b0
  . subst hc;rw[Bb,hl]
  . rw[C7 _ _ hc]
 have hget: ∀(k:Nat) (ds:List AV),(es0.set i (cs.set j (.lst false ((es.drop off).take len))))[k]?=some ds->(k=i/\ds=cs.set j (.lst false ((es.drop off).take len)))\/(k≠i/\es0[k]?=some ds):=fun k ds hk=>by
  exact jk
 have hu: ∀(k:Nat) (ds:List AV),(es0.set i (cs.set j (.lst false ((es.drop off).take len))))[k]?=some ds->ds.length=sz0:=fun k ds hk=>by
  rcases hget k ds hk with⟨rfl,rfl⟩ |⟨_,hk'⟩
  . rw[List.length_set];exact r5 k cs hi
  . exact r5 k ds hk'
 have:=u1.upd (w':=w) (b:=b0) (o0:=.row false sz0 es0) (o':=.row false sz0 (es0.set i (cs.set j (.lst false ((es.drop off).take len))))) (r':=r) (by rw[EL _ hne];exact hb0) rfl (.inr ⟨r,hl,rfl,.inl rfl⟩) (fun hs'=>.inr ⟨r,hl,rfl,hs',rfl⟩) (fun _ _ _=>rfl) (Nat.le_refl _) rfl rfl
  ⟨r1,r2,by simp[r3],by simp;exact r4,hu,fun hsol=>by
   obtain⟨c,TT,w1,w2,w3⟩:=r6 hsol;refine⟨c,TT,w1,w2,hu,fun k ds q z hk hq=>?_⟩;rw[hlput];rcases hget k ds hk with⟨rfl,rfl⟩ |⟨_,hk'⟩
   . by_cases hqj:q=j
     . subst hqj;rw[List.getElem?_set_self hjlt]at hq;cases hq;obtain⟨v,f1,f2,f3⟩:=w3.2 k cs q _ hi hj;exact⟨v,f1,u4 ι v off len f2,rfl⟩
     . rw[List.getElem?_set_ne (Ne.symm hqj)]at hq;obtain⟨v,f1,f2,f3⟩:=w3.2 k cs q z hi hq;exact⟨v,f1,f2.mono u3 (LLe.refl _),f3⟩
   . obtain⟨v,f1,f2,f3⟩:=w3.2 k ds q z hk' hq;exact⟨v,f1,f2.mono u3 (LLe.refl _),f3⟩⟩
 rw[hlput]at this;refine⟨H',ι,⟨hs.n,hs.d,fun u y hy=>?_,this.1⟩,u2.trans hs.heap u1 this.2⟩;obtain⟨v,h1,h2⟩:=hs.env u y hy;exact⟨v,h1,h2.mono u3 (LLe.refl _)⟩
theorem Ghost.plain{n:Nat}{e:As}{h:Ab}(b:Nat){sz:Nat}{es:List (List AV)}(hb:h b=some (.row false sz es))(hp: ∀cs∈es,cs.all AV.isPure1=true):Ghost ⟨n,e,h⟩ ⟨n,e,hput h b (.row true sz es)⟩:=fun H ι a w hs=>by
 obtain⟨r,hl,⟨r1,r2,r3,r4,r5,r6⟩,r7⟩:=hs.heap.obj b _ hb rfl;have hlput:Dp ι b r=ι:=by
  funext c
  by_cases hc:c=b
  . subst hc;rw[Bb,hl]
  . rw[C7 _ _ hc]
 have:=hs.heap.upd (w':=w) (o0:=.row false sz es) (o':=.row true sz es) (r':=r) hb rfl (.inr ⟨r,hl,rfl,.inl rfl⟩) (fun hs'=>.inr ⟨r,hl,rfl,hs',rfl⟩) (fun _ _ _=>rfl) (Nat.le_refl _) rfl rfl
  ⟨r1,r2,r3,r4,r5,fun hsol=>by
   obtain⟨c,TT,w1,w2,w3⟩:=r6 hsol;exact⟨c,TT,w1,w2,w3.1,fun k ds q z hk hq=>by
    obtain⟨v,f1,f2,f3⟩:=w3.2 k ds q z hk hq;exact⟨v,f1,CU (List.all_eq_true.1 (hp ds (List.mem_of_getElem? hk)) z (List.mem_of_getElem? hq)) f2,f3⟩⟩⟩
 rw[hlput]at this;exact⟨H,ι,⟨hs.n,hs.d,hs.env,this.1⟩,this.2⟩
end
end Go.Proofs.YtbbfelelocccmaaGreat.Sv
namespace Go.Proofs.YtbbfelelocccmaaGreat.Sv
open Go
section
variable {P : Program} {s : Ai} {Q : Exit -> Ai -> Prop} {n : Nat} {e : As} {h : Ab}
theorem AGo.loopI{γ:Type}{c:Code}(inv:γ->Ai)(F:γ->Prop)(μ:γ->Nat)(g0:γ)(h0:Sub (inv g0) s)(hF:F g0)
 (round: ∀g,F g->AGo P c (inv g) (B4 (fun s'=>∃g',Sub (inv g') s'/\F g'/\μ g'<μ g) Q)):AGo P (.loop c) s Q:=
 AGo.loop (fun g s'=>Sub (inv g) s'/\F g) μ g0 ⟨h0,hF⟩ fun g s' hs=>AGo.sub hs.1 ((round g hs.2).mono fun e s'' hq=>by
  cases e with
  | normal=>obtain⟨g',h1,h2,h3⟩:=hq;exact⟨g',⟨h1,h2⟩,h3⟩
  | _=>exact hq)
theorem cw{c:Code}{φ:Prop}(hf: ∀H ι a w,Sim H ι s a w->φ)(h:φ->AGo P c s Q):AGo P c s Q:=fun H ι a w hs=>h (hf H ι a w hs) H ι a w hs
theorem d5{H:Ax}{ι:Ba}{ex:Bool}{es:List (List AV)}{v:Value}(h:Rel H ι (.lst ex es) v):es.length<=maxLen:=by
 rcases h.lst_inv with⟨rfl,_⟩ |⟨_,b,off,cap,sz,c,vals,_,_,_,_,_,_,_,h1,h2⟩
 . simp
 . omega
theorem CB{x:Int}(h1: -9223372036854775808<=x)(h2:x<=9223372036854775807):IntKind.i64.wrap x=x:=by
 rw[IntKind.wrap_i64];omega
theorem Ir{k m:Nat}(h:k<m)(hm:m<=maxLen):IntKind.i64.wrap ((k:Int)+1)=((k+1:Nat):Int):=by
 simp only[maxLen]at hm;rw[CB (by omega) (by omega)];rfl
variable {T : Nat -> Option Ar} {o : Oper}
theorem Be{t t':TypeId}{x:Operand}{k m:Nat}(ho:o.op= .binOp .add t x (.const (.int .i64 1)) t')(hx:Ak e x=some (.int .i64 (k:Int)))(h1:k<m)(hm:m<=maxLen):QLoc P o e h [] (.int .i64 ((k+1:Nat):Int)):=by
 have:=Bx (P:=P) (h:=h) ho hx (q:=.int .i64 1) rfl (r:=.int .i64 (IntKind.i64.wrap ((k:Int)+1))) rfl;rwa[Ir h1 hm]at this
theorem rel_unex{H:Ax}{ι:Ba}{ex:Bool}{es:List (List AV)}{v:Value}(h:Rel H ι (.lst ex es) v):Rel H ι (.lst false es) v:=by
 rcases h.lst_inv with⟨rfl,ad,cap,rfl,h1,h2,h3,h4⟩ |⟨hne,b,off,cap,sz,c,vals,rfl,h1,h2,h3,h4,h5,h6,h7,h8⟩
 . exact .lst0 _ _ _ _ (fun h=>by cases h) h2 h3 h4
 . exact .lst _ _ _ _ _ _ _ _ _ hne h1 h2 h3 h4 h5 (fun h=>by cases h) h7 h8
theorem OLoc.weaken{R:List Nat}{W:List (Nat×AObj)}{x y:AV}(h0:OLoc P o e h R W (some x))(hxy: ∀H ι v,Rel H ι x v->Rel H ι y v):OLoc P o e h R W (some y):=fun H ι a w s Q hs g1 g2=>
 Oper.wp_mono (fun a' w' ⟨v,H',ι',h1,h2,h3⟩=>⟨v,H',ι',h1,fun z ez=>by cases ez;exact hxy _ _ _ (h2 x rfl),h3⟩) (h0 H ι a w s Q hs g1 g2)
theorem Cq(hT:Cn P T){t:TypeId}{len u:Nat}{parts:Array (Nat×Operand)}{ps:List (Nat×AV)}{i j:Ar}(ho:o.op= .buildSlice t len parts)(hx:Bv e parts.toList=some ps)(hi:T t=some i)(hk:i.k= .slice u)(hj:T u=some j)(hz:j.zero.length=j.size)(hp:0<j.size)
 (hidx:parts.toList.map (·.1)=List.range parts.toList.length) (hlen:parts.toList.length=len) (hsz:E0 j.size ps=true) (h1:(partVals ps).all (·.all AV.cell1)=true) (hpure:(partVals ps).all (·.all AV.isPure1)=true) (hbig:Nat.ble (len*j.size) 16777216=true):
 OLoc P o e h [] [] (some (.lst false (partVals ps))):=
 (nC hT ho hx hi hk hj hz hp hidx hlen hsz h1 hpure hbig).weaken fun _ _ _=>rel_unex
theorem AGo.split{c:Code}(d:Nat){b:Bool}(he:e d=some (.bool b))(h1:b=true->AGo P c ⟨n,Aa e d (.bool true),h⟩ Q)(h2:b=false->AGo P c ⟨n,Aa e d (.bool false),h⟩ Q):AGo P c ⟨n,e,h⟩ Q:=by
 exact cI
end
end Go.Proofs.YtbbfelelocccmaaGreat.Sv
namespace Go.Proofs.YtbbfelelocccmaaGreat.Sv
open Go
def AV.flat(k:Nat->Bool):AV->Bool
  | .ref b _ _ _=>k b
  | .ptr b _ _ _=>k b
  | .map b=>k b
  | .agg _=>false
  | .tup _=>false
  | .fn _ _ _=>false
  | _=>true
def AV.flat2(k:Nat->Bool):AV->Bool
  | .agg cs=>cs.all (AV.flat k)
  | x=>x.flat k
def AV.avoid(k:Nat->Bool):AV->Bool
  | .agg cs=>cs.all (AV.flat k)
  | .tup cs=>cs.all (AV.flat2 k)
  | .fn _ xs cs=>xs.all (AV.flat k)&&cs.all (AV.flat k)
  | x=>x.flat k
def AObj.avoid(k:Nat->Bool):AObj->Bool
  | .row true _ _=>true
  | .row false _ es=>es.all (fun cs=>cs.all (AV.avoid k))
  | _=>true
def lcut(ι:Ba)(k:Nat->Bool):Ba:=fun b=>bif k b then ι b else none
theorem CP{ι:Ba}{k:Nat->Bool}{b:Nat}(h:k b=true):lcut ι k b=ι b:=by simp[lcut,h]
theorem Bi{ι:Ba}{k:Nat->Bool}{b:Nat}{r:Ent}(h:lcut ι k b=some r):ι b=some r:=by
 unfold lcut at h
 cases e:k b with
 | true=>rw[e]at h;exact h
 | false=>rw[e]at h;cases h
theorem DI{H:Ax}{ι:Ba}{k:Nat->Bool}{x:AV}{v:Value}(h:Rel H ι x v)(hf:x.flat k=true):Rel H (lcut ι k) x v:=by
 cases h with
 | bool=>exact .bool _ _
 | int=>exact .int _ _ _
 | str=>exact .str _ _
 | nil=>exact .nil _
 | nilp=>exact .nilp _
 | lst0 _ ex a cap hex hcap hn hsp=>exact .lst0 _ ex a cap hex hcap hn hsp
 | lst _ ex es b off cap sz c vals hne hb hsz hv hr hc1 hex hcap hmax=>exact .lst _ ex es b off cap sz c vals hne hb hsz hv hr hc1 hex hcap hmax
 | loc _ cs b off c vals hb hv hr hc1=>exact .loc _ cs b off c vals hb hv hr hc1
 | refL _ b n off len cap r hr hn hlen hlc hcap hmax=>exact .refL _ b n off len cap r (by rw[CP hf];exact hr) hn hlen hlc hcap hmax
 | ref0 _ b r a hr hn hc hsp=>exact .ref0 _ b r a (by rw[CP hf];exact hr) hn hc hsp
 | refS _ b n off len r a cap hr hn=>exact .refS _ b n off len r a cap (by rw[CP hf];exact hr) hn
 | ptrL _ b n i o r hr hn=>exact .ptrL _ b n i o r (by rw[CP hf];exact hr) hn
 | ptrS _ b n i o r a hr hn=>exact .ptrS _ b n i o r a (by rw[CP hf];exact hr) hn
 | map _ b r hr hn=>exact .map _ b r (by rw[CP hf];exact hr) hn
 | val _ v h=>exact .val _ v h
 | agg=>cases hf
 | tup=>cases hf
 | fn=>cases hf
theorem Ev{α:Type}{l:List α}{p:α->Bool}(h:l.all p=true){j:Nat}{x:α}(hj:l[j]?=some x):p x=true:=
 List.all_eq_true.1 h x (List.mem_of_getElem? hj)
theorem XX{H:Ax}{ι:Ba}{k:Nat->Bool}{x:AV}{v:Value}(h:Rel H ι x v)(hf:x.flat2 k=true):Rel H (lcut ι k) x v:=by
 cases x with
 | agg cs=>
  obtain⟨us,rfl,hl,hr⟩:=h.agg_inv;exact .agg _ cs us hl fun j x v h1 h2=>DI (hr j x v h1 h2) (Ev hf h1)
 | _=>exact DI h hf
theorem DV{H:Ax}{ι:Ba}{k:Nat->Bool}{x:AV}{v:Value}(h:Rel H ι x v)(hf:x.avoid k=true):Rel H (lcut ι k) x v:=by
 cases h with
 | agg _ cs vs hl hr=>exact .agg _ cs vs hl fun j x v h1 h2=>DI (hr j x v h1 h2) (Ev hf h1)
 | tup _ cs vs hl hr=>exact .tup _ cs vs hl fun j x v h1 h2=>XX (hr j x v h1 h2) (Ev hf h1)
 | fn _ f xs cs us vs hx hl h1 h2=>
  simp only[AV.avoid,Bool.and_eq_true]at hf;exact .fn _ f xs cs us vs hx hl (fun j x v g1 g2=>DI (h1 j x v g1 g2) (Ev hf.1 g1)) (fun j x v g1 g2=>DI (h2 j x v g1 g2) (Ev hf.2 g1))
 | bool=>exact .bool _ _
 | int=>exact .int _ _ _
 | str=>exact .str _ _
 | nil=>exact .nil _
 | nilp=>exact .nilp _
 | lst0 _ ex a cap hex hcap hn hsp=>exact .lst0 _ ex a cap hex hcap hn hsp
 | lst _ ex es b off cap sz c vals hne hb hsz hv hr hc1 hex hcap hmax=>exact .lst _ ex es b off cap sz c vals hne hb hsz hv hr hc1 hex hcap hmax
 | loc _ cs b off c vals hb hv hr hc1=>exact .loc _ cs b off c vals hb hv hr hc1
 | refL _ b n off len cap r hr hn hlen hlc hcap hmax=>exact DI (.refL _ b n off len cap r hr hn hlen hlc hcap hmax) hf
 | ref0 _ b r a hr hn hc hsp=>exact DI (.ref0 _ b r a hr hn hc hsp) hf
 | refS _ b n off len r a cap hr hn=>exact DI (.refS _ b n off len r a cap hr hn) hf
 | ptrL _ b n i o r hr hn=>exact DI (.ptrL _ b n i o r hr hn) hf
 | ptrS _ b n i o r a hr hn=>exact DI (.ptrS _ b n i o r a hr hn) hf
 | map _ b r hr hn=>exact DI (.map _ b r hr hn) hf
 | val _ v h=>exact .val _ v h
theorem GP{H:Ax}{ι:Ba}{w:World}{r:Ent}{o:AObj}{k:Nat->Bool}(h:ObjOk H ι w r o)(ha:o.avoid k=true):ObjOk H (lcut ι k) w r o:=by
 cases o with
 | free=>trivial
 | map kvs=>exact h
 | iter0=>exact h
 | row p sz es=>
  obtain⟨h1,h2,h3,h4,h5,h6⟩:=h;refine⟨h1,h2,h3,h4,h5,fun hs=>?_⟩;obtain⟨c,T,c1,c2,c3,c4⟩:=h6 hs;refine⟨c,T,c1,c2,c3,?_⟩
  cases p with
  | true=>exact c4
  | false=>
   intro i cs j x e1 e2;obtain⟨v,v1,v2,v3⟩:=c4 i cs j x e1 e2;exact⟨v,v1,DV v2 (Ev (Ev ha e1) e2),v3⟩
abbrev HB(k:Nat):Nat->Bool:=fun b=>Nat.blt b k
theorem Ghost.empty{n:Nat}{e:As}{h:Ab}(t:Nat)(ht:e t=some .nil):Ghost ⟨n,e,h⟩ ⟨n,Aa e t (.lst false []),h⟩:=fun H ι a w hs=>
 ⟨H,ι,⟨hs.n,hs.d,fun u y hy=>by
  by_cases hu:u=t
  . subst hu;simp only[Cm,Option.some.injEq]at hy;subst hy;obtain⟨v,h1,h2⟩:=hs.env u _ ht;exact⟨v,h1,by rw[h2.nil_inv];exact .lst0 _ _ _ _ (fun h=>by cases h) (Nat.zero_le _) (fun _=>rfl) trivial⟩
  . simp only[DU _ _ hu]at hy;exact hs.env u y hy,hs.heap⟩,Step.refl _ _ _ _⟩
def EDrop(k:Nat)(e' e:As):Prop:=∀t x,e' t=some x->e t=some x/\x.avoid (HB k)=true
def HDrop(k:Nat)(h' h:Ab):Prop:=∀b o,h' b=some o->(h b=some o/\(o.alive=true->Nat.blt b k=true/\o.avoid (HB k)=true))\/(o= .free/\Nat.blt b k=false)
theorem EDrop.new(k:Nat)(e:As):EDrop k A8 e:=fun _ _ h=>by cases h
theorem EDrop.put{k:Nat}{e' e:As}{t:Nat}{v:AV}(h:EDrop k e' e)(hv:e t=some v)(ha:v.avoid (HB k)=true):EDrop k (Aa e' t v) e:=fun u x hx=>by
 by_cases hu:u=t
 . subst hu;rw[Cm]at hx;cases hx;exact⟨hv,ha⟩
 . rw[DU _ _ hu]at hx;exact h u x hx
theorem HDrop.none(k:Nat)(h:Ab):HDrop k hNone h:=fun _ _ h=>by cases h
theorem HDrop.put{k:Nat}{h' h:Ab}{b:Nat}{o:AObj}(hh:HDrop k h' h)(ho:h b=some o)(hb:Nat.blt b k=true)(ha:o.avoid (HB k)=true):HDrop k (hput h' b o) h:=fun c x hx=>by
 by_cases hc:c=b
 . subst hc;rw[Ap]at hx;cases hx;exact .inl ⟨ho,fun _=>⟨hb,ha⟩⟩
 . rw[AF _ _ hc]at hx;exact hh c x hx
theorem HDrop.tail(k:Nat)(h:Ab):HDrop k (Bw k) h:=fun b o hx=>by
 have hk:Nat.blt b k=false:=by
  cases e:Nat.blt b k with
  | false=>rfl
  | true=>simp only[Bw,e,cond_true]at hx;cases hx
 have ho:o= .free:=by simp only[Bw,hk,cond_false,Option.some.injEq]at hx;exact hx.symm
 exact .inr ⟨ho,hk⟩
structure Drop(k:Nat)(s'' s':Ai):Prop where
  n:s''.n=s'.n
  e:EDrop k s''.env s'.env
  h:HDrop k s''.h s'.h
theorem Drop.mk'{k n:Nat}{e' e:As}{h' h:Ab}(h1:EDrop k e' e)(h2:HDrop k h' h):Drop k ⟨n,e',h'⟩ ⟨n,e,h⟩:=⟨rfl,h1,h2⟩
theorem Sim.cut{H:Ax}{ι:Ba}{s s':Ai}{a:Act}{w:World}{k:Nat}(hs:Sim H ι s a w)(hd:Drop k s' s):Sim H (lcut ι (HB k)) s' a w:=by
 have hal: ∀b o,s'.h b=some o->o.alive=true->s.h b=some o/\Nat.blt b k=true/\o.avoid (HB k)=true:=fun b o h1 h2=>by
  rcases hd.h b o h1 with⟨g1,g2⟩ |⟨g1,_⟩
  . exact⟨g1,g2 h2⟩
  . subst g1;cases h2
 refine⟨hs.n.trans hd.n.symm,hs.d,fun t x hx=>?_,⟨hs.heap.know,fun b hb=>?_,fun b o h1 h2=>?_,fun b b' o o' r r' h1 h2 h3 h4 h5 h6=>?_,hs.heap.glob⟩⟩
 . obtain⟨g1,g2⟩:=hd.e t x hx;obtain⟨v,v1,v2⟩:=hs.env t x g1;exact⟨v,v1,DV v2 g2⟩
 . rcases hd.h b _ hb with⟨g1,_⟩ |⟨_,g2⟩
   . have:=hs.heap.free b g1;unfold lcut;rw[this];cases HB k b<;>rfl
   . unfold lcut;rw[show HB k b=false from g2];rfl
 . obtain⟨g1,g2,g3⟩:=hal b o h1 h2;obtain⟨r,r1,r2,r3⟩:=hs.heap.obj b o g1 h2;exact⟨r,by rw[CP (k:=HB k) g2];exact r1,GP r2 g3,r3⟩
 . exact hs.heap.inj b b' o o' r r' (hal b o h1 h2).1 h2 (hal b' o' h3 h4).1 h4 (Bi h5) (Bi h6)
theorem Step.cut{H:Ax}{ι:Ba}{h h1 h':Ab}{w:World}{H':Ax}{ι':Ba}{w':World}{k:Nat}(hr:HeapRel H ι h w)(hf: ∀b,Nat.blt b k=false->h b=some .free)
 (st:Step H ι h w H' ι' h1 w') (hd:HDrop k h' h1):Step H ι h w H' (lcut ι' (HB k)) h' w' where
 size:=st.size
 os:=st.os
 out:=st.out
 keep:=st.keep
 kle:=st.kle
 knew:=st.knew
 lle:=fun b r e=>by
  cases hb:Nat.blt b k with
  | false=>rw[hr.free b (hf b hb)]at e;cases e
  | true=>rw[CP (k:=HB k) hb];exact st.lle b r e
 lframe:=fun b e=>by
  cases hb:Nat.blt b k with
  | false=>rw[hf b hb]at e;cases e
  | true=>rw[CP (k:=HB k) hb];exact st.lframe b e
 newrb:=fun b r' e=>st.newrb b r' (Bi e)
 dom:=fun b e=>by
  exact jn
section
variable {P : Program} {s : Ai} {Q : Exit -> Ai -> Prop}
theorem AGo.cut{c:Code}{K:Ai->Prop}(k:Nat)(hf: ∀b,Nat.blt b k=false->s.h b=some .free)(h:AGo P c s (B4 (fun s1=>∃s2,Drop k s2 s1/\K s2) Q)):AGo P c s (B4 K Q):=fun H ι a w hs=>
 wp_mono (h H ι a w hs) fun e a' w' hp=>by
  obtain⟨s',H',ι',q,r,t⟩:=hp
  cases e with
  | normal=>
   obtain⟨s2,d,k2⟩:=q;exact⟨s2,H',_,k2,r.cut d,t.cut hs.heap hf d.h⟩
  | _=>exact⟨s',H',ι',q,r,t⟩
theorem AGo.join{γ:Type}{c:Code}(inv:γ->Ai)(F:γ->Prop)(h:AGo P c s (B4 (fun s'=>∃g,Sub (inv g) s'/\F g) Q))(k: ∀g,F g->Q .normal (inv g)):AGo P c s Q:=fun H ι a w hs=>
 wp_mono (h H ι a w hs) fun e a' w' hp=>by
  exact jB
theorem AO{k b:Nat}(h:Nat.blt b k=false):Bw k b=some .free:=by simp only[Bw,h,cond_false]
theorem Ag{h:Ab}{k c:Nat}{o:AObj}(hf: ∀b,Nat.blt b k=false->h b=some .free)(hc:Nat.blt c k=true): ∀b,Nat.blt b k=false->hput h c o b=some .free:=fun b hb=>by
 have hne:b≠c:=fun e=>by subst e;rw[hc]at hb;cases hb
 rw[AF _ _ hne];exact hf b hb
theorem A4{γ:Type}{c:Code}(k:Nat)(inv:γ->Ai)(F:γ->Prop)(μ:γ->Nat)(g0:γ)(h0:Sub (inv g0) s)(hF:F g0)(hf: ∀g b,Nat.blt b k=false->(inv g).h b=some .free)
 (round: ∀g,F g->AGo P c (inv g) (B4 (fun s'=>∃g',Drop k (inv g') s'/\F g'/\μ g'<μ g) Q)):AGo P (.loop c) s Q:=
 AGo.loopI inv F μ g0 h0 hF fun g hg=>AGo.cut k (hf g) ((round g hg).mono fun e s'' hq=>by
  cases e with
  | normal=>obtain⟨g',h1,h2,h3⟩:=hq;exact⟨inv g',h1,g',Sub.refl _,h2,h3⟩
  | _=>exact hq)
end
def mem(L:List Nat):Nat->Bool:=fun b=>L.any (fun c=>Nat.beq b c)
theorem mem_iff{L:List Nat}{b:Nat}:mem L b=true↔b∈L:=by
 unfold mem;rw[List.any_eq_true];constructor
 . rintro⟨c,h1,h2⟩
   rw[Nat.eq_of_beq_eq_true h2];exact h1
 . exact fun h=>⟨b,h,Nat.beq_refl b⟩
def hres(h:Ab)(L:List Nat):Ab:=fun b=>bif mem L b then h b else some .free
theorem Ce(h:Ab):hres h []=hNew:=rfl
theorem Bq{h h':Ab}{L:List Nat}{b:Nat}{o:AObj}(ho:h b=some o)(hr:hres h L=h'):hres h (b::L)=hput h' b o:=by
 subst hr;funext x
 by_cases hx:x=b
 . subst hx;rw[Ap];have:mem (x::L) x=true:=mem_iff.2 (by simp);simp only[hres,this,cond_true];exact ho
 . rw[AF _ _ hx];have:mem (b::L) x=mem L x:=by
    simp only[mem,List.any_cons,Af hx,Bool.false_or]
   simp only[hres,this]
def AllL:List Nat->(Nat->Prop)->Prop
  | [],_=>True
  | b::L,p=>p b/\AllL L p
theorem AllL.get{p:Nat->Prop}: ∀{L:List Nat},AllL L p->∀b∈L,p b
 | b::L,h,c,hc=>by
  rcases List.mem_cons.1 hc with rfl | hc
  . exact h.1
  . exact AllL.get h.2 c hc
def QW(ι ι':Ba)(L:List Nat):Ba:=fun b=>bif mem L b then ι' b else ι b
theorem PL{W:List (Nat×AObj)}{b:Nat}: ∀{h:Ab},(∀p∈W,p.1≠b)->hputs h W b=h b:=by
 induction W with
 | nil=>exact fun _=>rfl
 | cons p W ih=>
  intro h hp;show hputs (hput h p.1 p.2) W b=h b;rw[ih (fun q hq=>hp q (List.mem_cons_of_mem _ hq)),AF _ _ (fun e=>hp p List.mem_cons_self e.symm)]
theorem Tb{W:List (Nat×AObj)}{b:Nat}: ∀{h h':Ab},h b=h' b->hputs h W b=hputs h' W b:=by
 induction W with
 | nil=>exact fun h=>h
 | cons p W ih=>
  intro h h' hh;refine ih ?_
  by_cases hb:b=p.1
  . subst hb;rw[Ap,Ap]
  . rw[AF _ _ hb,AF _ _ hb,hh]
theorem bS{H:Ax}{ι:Ba}{h:Ab}{w:World}{L:List Nat}{W:List (Nat×AObj)}{H':Ax}{ι':Ba}{h':Ab}{w':World}(hr:HeapRel H ι h w)
 (hL: ∀b∈L,∃o,h b=some o/\o.avoid (mem L)=true) (hW: ∀p∈W,p.1∈L)
 (hk: ∀b∈L,∃o,h' b=some o/\hputs h W b=some o/\o.avoid (mem L)=true)
 (hr':HeapRel H' ι' h' w') (hst:Step H (lcut ι (mem L)) (hres h L) w H' ι' h' w'):
 HeapRel H' (QW ι ι' L) (hputs h W) w'/\Step H ι h w H' (QW ι ι' L) (hputs h W) w':=by
 have mT: ∀b,b∈L->QW ι ι' L b=ι' b:=fun b hb=>by simp only[QW,mem_iff.2 hb,cond_true]
 have mF: ∀b,b∉L->QW ι ι' L b=ι b:=fun b hb=>by
  have:mem L b=false:=by cases e:mem L b with | false=>rfl | true=>exact absurd (mem_iff.1 e) hb
  simp only[QW,this,cond_false]
 have cT: ∀b,b∈L->lcut ι (mem L) b=ι b:=fun b hb=>CP (mem_iff.2 hb)
 have rT: ∀b,b∈L->hres h L b=h b:=fun b hb=>by simp only[hres,mem_iff.2 hb,cond_true]
 have rF: ∀b,b∉L->hres h L b=some .free:=fun b hb=>by
  have:mem L b=false:=by cases e:mem L b with | false=>rfl | true=>exact absurd (mem_iff.1 e) hb
  simp only[hres,this,cond_false]
 have wF: ∀b,b∉L->hputs h W b=h b:=fun b hb=>PL fun p hp e=>hb (e▸hW p hp)
 have own: ∀rb,Dg (hres h L) (lcut ι (mem L)) rb->Dg h ι rb:=by
  rintro rb ⟨b,o,r,h1,h2,h3,h4,h5⟩
  by_cases hb:b∈L
  . exact⟨b,o,r,by rw[<-rT b hb];exact h1,h2,Bi h3,h4,h5⟩
  . rw[rF b hb]at h1;cases h1;cases h2
 -- rows that the call didn't see are none of its
 have apart: ∀b o r,b∉L->h b=some o->o.alive=true->ι b=some r->r.solid->¬Dg (hres h L) (lcut ι (mem L)) r.rb:=by
  rintro b o r hb h1 h2 h3 h4 ⟨b',o',r',g1,g2,g3,g4,g5⟩
  by_cases hb':b'∈L
  . exact hr.inj b b' o o' r r' h1 h2 (by rw[<-rT b' hb'];exact g1) g2 h3 (Bi g3) h4 g4 (fun e=>hb (e▸hb')) g5.symm
  . rw[rF b' hb']at g1;cases g1;cases g2
 have lle:LLe ι (QW ι ι' L):=fun b r e=>by
  by_cases hb:b∈L
  . rw[mT b hb];exact hst.lle b r (by rw[cT b hb];exact e)
  . rw[mF b hb];exact⟨r,e,.inl rfl⟩
 have lle':LLe (lcut ι' (mem L)) (QW ι ι' L):=fun b r e=>by
  by_cases hb:b∈L
  . rw[mT b hb];exact⟨r,Bi e,.inl rfl⟩
  . have:mem L b=false:=by cases e:mem L b with | false=>rfl | true=>exact absurd (mem_iff.1 e) hb
    simp only[lcut,this,cond_false]at e;cases e
 have blk: ∀b o r,b∉L->h b=some o->o.alive=true->ι b=some r->r.solid->w'.heap[r.rb]?=w.heap[r.rb]?:=fun b o r hb h1 h2 h3 h4=>
  hst.keep r.rb (hr.lt ⟨b,o,r,h1,h2,h3,h4,rfl⟩) (apart b o r hb h1 h2 h3 h4)
 have noK: ∀b o r,b∉L->h b=some o->o.alive=true->ι b=some r->r.solid->H r.rb=none->H' r.rb=none:=fun b o r hb h1 h2 h3 h4 h5=>by
  exact jy
 -- a row of the call's, afterwards: not one of those that it didn't see
 have apart': ∀b b' o r r',b∉L->b'∈L->h b=some o->o.alive=true->ι b=some r->r.solid->ι' b'=some r'->r'.solid->r.rb≠r'.rb:=fun b b' o r r' hb hb' h1 h2 h3 h4 g1 g2 e=>by
  exact jQ
 refine⟨⟨hr'.know,fun b hb=>?_,fun b o h1 h2=>?_,fun b b' o o' r r' h1 h2 h3 h4 h5 h6 s1 s2 hne=>?_,hr'.glob⟩,⟨hst.size,hst.os,hst.out,fun rb hlt hno=>hst.keep rb hlt (fun h=>hno (own rb h)),hst.kle,fun b hb=>?_,lle,fun b e=>?_,fun b r' e es=>?_,fun b e=>?_⟩⟩
 . by_cases hbL:b∈L
   . obtain⟨o,k1,k2,_⟩:=hk b hbL;rw[k2]at hb;cases hb;rw[mT b hbL];exact hr'.free b k1
   . rw[wF b hbL]at hb;rw[mF b hbL];exact hr.free b hb
 . by_cases hbL:b∈L
   . obtain⟨o',k1,k2,k3⟩:=hk b hbL;exact jj
   . rw[wF b hbL]at h1;exact zt92
 . by_cases hb:b∈L<;>by_cases hb':b'∈L
   . obtain⟨q,k1,k2,_⟩:=hk b hb;exact jq
   . rw[wF b' hb']at h3;rw[mF b' hb']at h6;rw[mT b hb]at h5;exact fun e=>apart' b' b o' r' r hb' hb h3 h4 h6 s2 h5 s1 e.symm
   . rw[wF b hb]at h1;rw[mF b hb]at h5;rw[mT b' hb']at h6;exact apart' b b' o r r' hb hb' h1 h2 h5 s1 h6 s2
   . rw[wF b hb]at h1;rw[mF b hb]at h5;rw[wF b' hb']at h3;rw[mF b' hb']at h6;exact hr.inj b b' o o' r r' h1 h2 h3 h4 h5 h6 s1 s2 hne
 . rcases hst.knew b hb with g | g | g
   . exact .inl g
   . exact .inr (.inl g)
   . exact .inr (.inr (own b g))
 . by_cases hb:b∈L
   . obtain⟨o,k1,_⟩:=hL b hb;rw[k1]at e;cases e
   . exact mF b hb
 . by_cases hb:b∈L
   . rw[mT b hb]at e;exact zt100
   . rw[mF b hb]at e;exact .inl e
 . by_cases hb:b∈L
   . obtain⟨o,k1,_⟩:=hL b hb;rw[k1]at e;cases e
   . rw[wF b hb];exact e
section
variable {P : Program} {o : Oper} {e : As} {h : Ab}
theorem KW{f:FuncId}{fn:Func}{args:Array Operand}{tys:Array TypeId}{xs:List AV}{r:AV}{hc hw:Ab}(L:List Nat)(W:List (Nat×AObj))(ho:o.op= .call {callee:=.value (.func f),args:=args,argTypes:=tys})(hf:P.funcs[f]?=some fn)(hn:(fn.name== "runtime.NumGoroutine")=false)(hb:fn.body.isSome=true)
 (hx:AR e args.toList=some xs) (hxa:xs.all (AV.avoid (mem L))=true) (hL:AllL L fun b=>∃q,h b=some q/\q.avoid (mem L)=true) (hW:W.all (fun p=>mem L p.1)=true) (hres':hres h L=hc)
 (hk:AllL L fun b=>∃q,hw b=some q/\hputs h W b=some q/\q.avoid (mem L)=true) (hra:r.avoid (mem L)=true)
 (hcall:ACall P f xs hc (fun r' h'=>r'=r/\HSub hw h')):OLoc P o e h L W (some r):=by
 intro H ι a w s Q hs g1 g2;have hx':AR s.env args.toList=some xs:=by
  exact YI
 have hraa:=B3 hs hx';have hra':RelAll H (lcut ι (mem L)) xs (args.map a.eval):=⟨hraa.1,fun j x v h1 h2=>DV (hraa.2 j x v h1 h2) (Ev hxa h1)⟩;have hLs: ∀b∈L,∃q,s.h b=some q/\q.avoid (mem L)=true:=fun b hb=>by rw[g2 b hb];exact hL.get b hb
 have hres2:hres s.h L=hc:=by
  rw[<-hres'];funext b;unfold hres
  cases e:mem L b with
  | true=>simp only[cond_true];exact g2 b (mem_iff.1 e)
  | false=>rfl
 have hrc:HeapRel H (lcut ι (mem L)) (hres s.h L) w:=by
  exact jX
 have hcalls:=hcall H (lcut ι (mem L)) w _ hra' (hres2▸hrc);have hexec:(execOp a.eval o).run P w= .ok (.enter f (args.map a.eval)) w:=by
  simp[execOp,ho,resolve,Act.eval,Deferred.ofValue,invoke,BO hf hn hb]
 exact jV
end
variable {P : Program} {T : Nat -> Option Ar} {ops : Array Oper} {rest : List Oper} {n : Nat} {e : As} {h : Ab} {o : Oper} {K : Ai -> Prop} {acc : List (List Nat × List Nat)} {R : List Nat} {W : List (Nat × AObj)} {r p : AV}
theorem aq(d:Nat)(hq:QLoc P o e h R r)(hr:AOps P ops rest ⟨n,Aa e d r,h⟩ K)(hd:o.dst=some d:=by exact rfl)(hb:Nat.blt d n=true:=by exact rfl)(hg:AJ ops o e=some true:=by exact rfl):AOps P ops (o::rest) ⟨n,e,h⟩ K:=AOps.s d hd hb hg hq hr
theorem ax(d:Nat)(hq:OLoc P o e h R W (some r))(hr:AOps P ops rest ⟨n,Aa e d r,(hputs h W)⟩ K)(hd:o.dst=some d:=by exact rfl)(hb:Nat.blt d n=true:=by exact rfl)(hg:AJ ops o e=some true:=by exact rfl):AOps P ops (o::rest) ⟨n,e,h⟩ K:=AOps.x d hd hb hg hq hr
theorem ak(d:Nat)(hr:AOps P ops rest ⟨n,Aa e d (.tup []),h⟩ K)(hd:o.dst=some d:=by exact rfl)(hb:Nat.blt d n=true:=by exact rfl)(hg:AJ ops o e=some false:=by exact rfl):AOps P ops (o::rest) ⟨n,e,h⟩ K:=AOps.k d hd hb hg hr
theorem am(d:Nat){x:Operand}(hr:AOps P ops rest ⟨n,Aa e d r,h⟩ K)(hd:o.dst=some d:=by exact rfl)(hb:Nat.blt d n=true:=by exact rfl)(hg:AJ ops o e=some true:=by exact rfl)(ho:o.op= .move x:=by exact rfl)(hx:Ak e x=some r:=by exact rfl):AOps P ops (o::rest) ⟨n,e,h⟩ K:=AOps.s d hd hb hg (KP (.inl ho) hx) hr
theorem aa(d:Nat){x:Operand}(hr:AOps P ops rest ⟨n,Aa e d r,h⟩ K)(hd:o.dst=some d:=by exact rfl)(hb:Nat.blt d n=true:=by exact rfl)(hg:AJ ops o e=some true:=by exact rfl)(ho:o.op= .assign x:=by exact rfl)(hx:Ak e x=some r:=by exact rfl):AOps P ops (o::rest) ⟨n,e,h⟩ K:=AOps.s d hd hb hg (KP (.inr ho) hx) hr
theorem al(d:Nat){t:TypeId}{x:Operand}{i:Ar}{cs:List AV}(hT:Cn P T)(hr:AOps P ops rest ⟨n,Aa e d r,h⟩ K)(hd:o.dst=some d:=by exact rfl)(hb:Nat.blt d n=true:=by exact rfl)(hg:AJ ops o e=some true:=by exact rfl)(ho:o.op= .load t x:=by exact rfl)(hx:Ak e x=some p:=by exact rfl)(hi:T t=some i:=by exact rfl)(hp:PtsTo h p R cs:=by first | exact .loc _ | exact .ptr _ _ _ _ _ _ _ _ rfl rfl rfl)(hl:H4 i cs=some r:=by exact rfl):AOps P ops (o::rest) ⟨n,e,h⟩ K:=AOps.s d hd hb hg (AA hT ho hx hi hp hl) hr
theorem af(d:Nat){t:TypeId}{x:Operand}{f off u:Nat}{i:Ar}{fs:List (Nat×Nat)}(hT:Cn P T)(hr:AOps P ops rest ⟨n,Aa e d r,h⟩ K)(hd:o.dst=some d:=by exact rfl)(hb:Nat.blt d n=true:=by exact rfl)(hg:AJ ops o e=some true:=by exact rfl)(ho:o.op= .fieldAddr t x f:=by exact rfl)(hx:Ak e x=some p:=by exact rfl)(hi:T t=some i:=by exact rfl)(hk:i.k= .struct fs:=by exact rfl)(hf:fs[f]?=some (off,u):=by exact rfl)(hm:H3 p off=some r:=by exact rfl):AOps P ops (o::rest) ⟨n,e,h⟩ K:=AOps.s d hd hb hg (HV hT ho hx hi hk hf hm) hr
theorem dq(d:Nat)(hq:QLoc P o e h R r)(hr:DOps P ops n rest (Aa e d r) h (acc++[(R,[])]) K)(hd:o.dst=some d:=by exact rfl)(hb:Nat.blt d n=true:=by exact rfl)(hg:AJ ops o e=some true:=by exact rfl):DOps P ops n (o::rest) e h acc K:=DOps.s d hd hb hg hq hr
theorem dx(d:Nat)(hq:OLoc P o e h R W (some r))(hr:DOps P ops n rest (Aa e d r) (hputs h W) (acc++[(R,W.map (·.1))]) K)(hd:o.dst=some d:=by exact rfl)(hb:Nat.blt d n=true:=by exact rfl)(hg:AJ ops o e=some true:=by exact rfl):DOps P ops n (o::rest) e h acc K:=DOps.x d hd hb hg hq hr
theorem dk(d:Nat)(hr:DOps P ops n rest (Aa e d (.tup [])) h (acc++[([],[])]) K)(hd:o.dst=some d:=by exact rfl)(hb:Nat.blt d n=true:=by exact rfl)(hg:AJ ops o e=some false:=by exact rfl):DOps P ops n (o::rest) e h acc K:=Ve d hd hb hg hr
theorem dm(d:Nat){x:Operand}(hr:DOps P ops n rest (Aa e d r) h (acc++[([],[])]) K)(hd:o.dst=some d:=by exact rfl)(hb:Nat.blt d n=true:=by exact rfl)(hg:AJ ops o e=some true:=by exact rfl)(ho:o.op= .move x:=by exact rfl)(hx:Ak e x=some r:=by exact rfl):DOps P ops n (o::rest) e h acc K:=DOps.s d hd hb hg (KP (.inl ho) hx) hr
theorem da(d:Nat){x:Operand}(hr:DOps P ops n rest (Aa e d r) h (acc++[([],[])]) K)(hd:o.dst=some d:=by exact rfl)(hb:Nat.blt d n=true:=by exact rfl)(hg:AJ ops o e=some true:=by exact rfl)(ho:o.op= .assign x:=by exact rfl)(hx:Ak e x=some r:=by exact rfl):DOps P ops n (o::rest) e h acc K:=DOps.s d hd hb hg (KP (.inr ho) hx) hr
theorem dl(d:Nat){t:TypeId}{x:Operand}{i:Ar}{cs:List AV}(hT:Cn P T)(hr:DOps P ops n rest (Aa e d r) h (acc++[(R,[])]) K)(hd:o.dst=some d:=by exact rfl)(hb:Nat.blt d n=true:=by exact rfl)(hg:AJ ops o e=some true:=by exact rfl)(ho:o.op= .load t x:=by exact rfl)(hx:Ak e x=some p:=by exact rfl)(hi:T t=some i:=by exact rfl)(hp:PtsTo h p R cs:=by first | exact .loc _ | exact .ptr _ _ _ _ _ _ _ _ rfl rfl rfl)(hl:H4 i cs=some r:=by exact rfl):DOps P ops n (o::rest) e h acc K:=DOps.s d hd hb hg (AA hT ho hx hi hp hl) hr
theorem df(d:Nat){t:TypeId}{x:Operand}{f off u:Nat}{i:Ar}{fs:List (Nat×Nat)}(hT:Cn P T)(hr:DOps P ops n rest (Aa e d r) h (acc++[([],[])]) K)(hd:o.dst=some d:=by exact rfl)(hb:Nat.blt d n=true:=by exact rfl)(hg:AJ ops o e=some true:=by exact rfl)(ho:o.op= .fieldAddr t x f:=by exact rfl)(hx:Ak e x=some p:=by exact rfl)(hi:T t=some i:=by exact rfl)(hk:i.k= .struct fs:=by exact rfl)(hf:fs[f]?=some (off,u):=by exact rfl)(hm:H3 p off=some r:=by exact rfl):DOps P ops n (o::rest) e h acc K:=DOps.s d hd hb hg (HV hT ho hx hi hk hf hm) hr
theorem an{s:Ai}(h:K s):AOps P ops [] s K:=AOps.nil h
theorem LN{id:Nat}{os:Array Oper}{c:Code}{s:Ai}{Q:Exit->Ai->Prop}(h:AOps P os os.toList s (fun s'=>AGo P c s' Q)):AGo P (.seq (.region id os false) c) s Q:=AGo.seq (AGo.region h)
theorem act{t:Nat}{x y:Code}{s:Ai}{Q:Exit->Ai->Prop}(h:AGo P x s Q)(he:s.env t=some (.bool true):=by exact rfl):AGo P (.cond (.tmp t) x y) s Q:=AGo.cond_true true he rfl h
theorem acf{t:Nat}{x y:Code}{s:Ai}{Q:Exit->Ai->Prop}(h:AGo P y s Q)(he:s.env t=some (.bool false):=by exact rfl):AGo P (.cond (.tmp t) x y) s Q:=AGo.cond_false false he rfl h
theorem qR{d:Nat}{c x y:Operand}(hr:AOps P ops rest ⟨n,Aa e d p,h⟩ K)(hd:o.dst=some d:=by exact rfl)(hb:Nat.blt d n=true:=by exact rfl)(hg:AJ ops o e=some true:=by exact rfl)(ho:o.op= .pick c x y:=by exact rfl)(hc:Ak e c=some (.bool false):=by exact rfl)(hx:Ak e y=some p:=by exact rfl):AOps P ops (o::rest) ⟨n,e,h⟩ K:=AOps.s d hd hb hg (Ek false ho hc rfl hx) hr
theorem qQ{d:Nat}{c x y:Operand}(hr:AOps P ops rest ⟨n,Aa e d p,h⟩ K)(hd:o.dst=some d:=by exact rfl)(hb:Nat.blt d n=true:=by exact rfl)(hg:AJ ops o e=some true:=by exact rfl)(ho:o.op= .pick c x y:=by exact rfl)(hc:Ak e c=some (.bool true):=by exact rfl)(hx:Ak e x=some p:=by exact rfl):AOps P ops (o::rest) ⟨n,e,h⟩ K:=AOps.s d hd hb hg (E3 true ho hc rfl hx) hr
theorem qP{d:Nat}{op:BinOp}{t t':TypeId}{x y:Operand}{q:AV}(hr:AOps P ops rest ⟨n,Aa e d r,h⟩ K)(hd:o.dst=some d:=by exact rfl)(hb:Nat.blt d n=true:=by exact rfl)(hg:AJ ops o e=some true:=by exact rfl)(ho:o.op= .binOp op t x y t':=by exact rfl)(hx:Ak e x=some p:=by exact rfl)(hy:Ak e y=some q:=by exact rfl)(hv:AX op p q=some r:=by exact rfl):AOps P ops (o::rest) ⟨n,e,h⟩ K:=AOps.s d hd hb hg (Bx ho hx hy hv) hr
theorem asp{c:Code}{Q:Exit->Ai->Prop}(d:Nat){b:Bool}(h1:b=true->AGo P c ⟨n,Aa e d (.bool true),h⟩ Q)(h2:b=false->AGo P c ⟨n,Aa e d (.bool false),h⟩ Q)(he:e d=some (.bool b):=by exact rfl):AGo P c ⟨n,e,h⟩ Q:=AGo.split d he h1 h2
theorem Ex(d:Nat){b:Bool}{l:List Oper}(h1:b=true->AOps P ops l ⟨n,Aa e d (.bool true),h⟩ K)(h2:b=false->AOps P ops l ⟨n,Aa e d (.bool false),h⟩ K)(he:e d=some (.bool b):=by exact rfl):AOps P ops l ⟨n,e,h⟩ K:=AOps.split d he h1 h2
theorem Fx{t:TypeId}{x:Operand}(sz b:Nat)(ho:o.op= .box t x:=by exact rfl)(hx:Ak e x=some p:=by exact rfl)(hb:h b=some .free:=by exact rfl)(hsz:p.cells.length=sz:=by exact rfl)(hp:0<sz:=by exact Nat.zero_lt_succ _)(h1:p.cells.all AV.cell1=true:=by exact rfl):OLoc P o e h [b] [(b,.row false sz [p.cells])] (some (.ptr b 1 0 0)):=fy b ho hx hb hsz hp h1
theorem Ew(hT:Cn P T){t:TypeId}{i:Ar}(b:Nat)(ho:o.op= .alloc t:=by exact rfl)(hi:T t=some i:=by exact rfl)(hb:h b=some .free:=by exact rfl)(hz:i.zero.length=i.size:=by exact rfl)(hp:0<i.size:=by exact Nat.zero_lt_succ _)(h1:i.zero.all AV.cell1=true:=by exact rfl):OLoc P o e h [b] [(b,.row false i.size [i.zero])] (some (.ptr b 1 0 0)):=Hg hT b ho hi hb hz hp h1
theorem JF(hT:Cn P T){t:TypeId}{x y:Operand}{ex:Bool}{es:List (List AV)}{k:IntKind}{m:Nat}{i j:Ar}{u:Nat}{cs:List AV}(hn:es[((m:Nat):Int).toNat]?=some cs)(ho:o.op= .indexAddr t x y:=by exact rfl)(hx:Ak e x=some (.lst ex es):=by exact rfl)(hy:Ak e y=some (.int k (m:Int)):=by exact rfl)(hi:T t=some i:=by exact rfl)(hk:i.k= .slice u:=by exact rfl)(hj:T u=some j:=by exact rfl)(hsz:cs.length=j.size:=by exact rfl):QLoc P o e h [] (.loc cs):=At hT ho hx hy hi hk hj (Int.natCast_nonneg _) hn hsz
theorem DX{f:FuncId}{fn:Func}{args:Array Operand}{tys:Array TypeId}{xs:List AV}(hf:P.funcs[f]?=some fn)(hc:APure P f xs (fun r'=>r'=r))(ho:o.op= .call {callee:=.value (.func f),args:=args,argTypes:=tys}:=by exact rfl)(hn:(fn.name== "runtime.NumGoroutine")=false:=by kernel_rfl)(hb:fn.body.isSome=true:=by exact rfl)(hx:AR e args.toList=some xs:=by exact rfl)(hp:xs.all AV.isPure=true:=by exact rfl):OLoc P o e h [] [] (some r):=ae ho hf hn hb hx hp hc
theorem fx{f:FuncId}{fn:Func}{args:Array Operand}{tys:Array TypeId}{xs:List AV}{hc hw:Ab}(hcall:ACall P f xs hc (fun r' h'=>r'=r/\HSub hw h'))(L:List Nat)(W:List (Nat×AObj))(ho:o.op= .call {callee:=.value (.func f),args:=args,argTypes:=tys})(hf:P.funcs[f]?=some fn)(hn:(fn.name== "runtime.NumGoroutine")=false)(hb:fn.body.isSome=true)
 (hx:AR e args.toList=some xs) (hxa:xs.all (AV.avoid (mem L))=true) (hL:AllL L fun b=>∃q,h b=some q/\q.avoid (mem L)=true) (hW:W.all (fun p=>mem L p.1)=true) (hres':hres h L=hc)
 (hk:AllL L fun b=>∃q,hw b=some q/\hputs h W b=some q/\q.avoid (mem L)=true) (hra:r.avoid (mem L)=true):OLoc P o e h L W (some r):=KW L W ho hf hn hb hx hxa hL hW hres' hk hra hcall
section
variable {c x y : Code} {s : Ai} {Q : Exit -> Ai -> Prop}
theorem asq(h:AGo P x s (B4 (fun s'=>AGo P y s' Q) Q)):AGo P (.seq x y) s Q:=AGo.seq h
theorem YE{id:Nat}(h:AOps P ops ops.toList s (fun s'=>Q .normal s')):AGo P (.region id ops false) s Q:=AGo.region h
theorem fa(h:Q .normal s):AGo P .skip s Q:=AGo.skip h
theorem Ge(h:Q .ret s):AGo P .ret s Q:=AGo.ret h
theorem bc{a b:Bool}(h:a=b):AV.bool a=AV.bool b:=congrArg AV.bool h
end
end Go.Proofs.YtbbfelelocccmaaGreat.Sv
