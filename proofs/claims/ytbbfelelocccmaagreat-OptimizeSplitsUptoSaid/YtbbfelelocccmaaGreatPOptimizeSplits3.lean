/-
  MAPS WHOSE KEYS ARE NUMBERS: own work, over no program.
-/
import Derived.Test.YtbbfelelocccmaaGreatPOptimizeSplits2
import Derived.MapKept
import Derived.Test.YtbbfelelocccmaaGreatPOptimizeSplits1
import Derived.Test.YtbbfelelocccmaaGreatProg
import Derived.KernelRfl
import Derived.Scope
import Derived.Lib.SliceRun
import Derived.Laws.BytesString
import Derived.Lib.ConvBytes
import Derived.WideKeyRuns
import Derived.ProofKit
import Derived.OpenShut
import Derived.SizedLaws
import Derived.Test.YtbbfelelocccmaaGreatRows
set_option linter.unusedVariables false
set_option linter.unusedSimpArgs false
set_option maxRecDepth 100000
set_option maxHeartbeats 2000000
namespace Go.Proofs.YtbbfelelocccmaaGreat.Sv
open Go
abbrev Ez:=List (Int×AV)
def kvs(K:IntKind)(m:Ez):List (AV×AV):=m.map fun p=>(.int K p.1,p.2)
def klook(z:Int):Ez->Option (Nat×AV)
  | []=>none
  |(k,v)::r=>bif z==k then some (0,v)else(klook z r).map fun p=>(p.1+1,p.2)
def SY(z:Int)(m:Ez):Option AV:=(klook z m).map (·.2)
def I1(z:Int)(v:AV):Ez->Ez
  | []=>[(z,v)]
  |(k,u)::r=>bif z==k then(k,v)::r else(k,u)::I1 z v r
def kdel(z:Int):Ez->Ez
  | []=>[]
  |(k,u)::r=>bif z==k then r else(k,u)::kdel z r
inductive EntRel(H:Ax)(K:IntKind):Ez->List MapEntry->Prop
  | nil:EntRel H K [] []
  | cons (z:Int) (v:AV) (m:Ez) (e:MapEntry) (es:List MapEntry) (hk:e.key= .int K z) (hv:Rel H AQ v e.val) (h:EntRel H K m es):EntRel H K ((z,v)::m) (e::es)
theorem PZ{H:Ax}{K:IntKind}: ∀{m:Ez} {es:List MapEntry},(kvs K m).length=es.length->(∀(j:Nat) (k v:AV),(kvs K m)[j]?=some (k,v)->∃e,es[j]?=some e/\Rel H AQ k e.key/\Rel H AQ v e.val)->EntRel H K m es
 | [],es,h1,_=>by
  have:es=[]:=List.length_eq_zero_iff.1 (by simpa[kvs]using h1.symm);subst this;exact .nil
 |(z,v)::m,[],h1,_=>by simp[kvs]at h1
 |(z,v)::m,e::es,h1,h2=>by
  obtain⟨e',g1,g2,g3⟩:=h2 0 (.int K z) v rfl;simp at g1;subst g1;exact .cons z v m e es g2.int_inv g3 (PZ (by simpa[kvs]using h1) fun j k u hj=>by
   obtain⟨e',k1,k2⟩:=h2 (j+1) k u (by simpa[kvs]using hj);exact⟨e',by simpa using k1,k2⟩)
theorem EntRel.out{H:Ax}{K:IntKind}{m:Ez}{es:List MapEntry}(h:EntRel H K m es):(kvs K m).length=es.length/\∀(j:Nat) (k v:AV),(kvs K m)[j]?=some (k,v)->∃e,es[j]?=some e/\Rel H AQ k e.key/\Rel H AQ v e.val:=by
 induction h with
 | nil=>exact⟨rfl,fun j k v h=>by simp[kvs]at h⟩
 | cons z v m e es hk hv h ih=>
  refine⟨by simpa[kvs]using ih.1,fun j k u hj=>?_⟩
  cases j with
  | zero=>
   simp[kvs]at hj;obtain⟨rfl,rfl⟩:=hj;exact⟨e,rfl,by rw[hk];exact .int _ _ _,hv⟩
  | succ j=>
   obtain⟨e',k1,k2⟩:=ih.2 j k u (by simpa[kvs]using hj);exact⟨e',by simpa using k1,k2⟩
theorem mapCells_iff{H:Ax}{K:IntKind}{m:Ez}{es:Array MapEntry}:Nx H (kvs K m) es↔EntRel H K m es.toList:=by
 constructor
 . rintro⟨h1,h2⟩
   exact PZ (by simpa using h1) fun j k v hj=>by
    obtain⟨e,g1,g2⟩:=h2 j k v hj;exact⟨e,by simpa using g1,g2⟩
 . intro h;obtain⟨h1,h2⟩:=h.out;exact⟨by simpa using h1,fun j k v hj=>by
    obtain⟨e,g1,g2⟩:=h2 j k v hj;exact⟨e,by simpa using g1,g2⟩⟩
theorem EntRel.find{H:Ax}{K:IntKind}{m:Ez}{es:List MapEntry}(h:EntRel H K m es)(z:Int): ∀i,∃r,Instr.findNow (.int K) (.int K z) es i=some r/\
 ((klook z m=none/\r=none)\/∃j v e,klook z m=some (j,v)/\r=some (i+j,e.val)/\es[j]?=some e/\e.key= .int K z/\Rel H AQ v e.val):=by
 induction h with
 | nil=>exact fun i=>⟨none,rfl,.inl ⟨rfl,rfl⟩⟩
 | cons k v m e es hk hv h ih=>
  intro i;obtain⟨r,r1,r2⟩:=ih (i+1)
  by_cases hz:z=k
  . subst hz;refine⟨some (i,e.val),by simp[Instr.findNow,Instr.sameNow,hk],.inr ⟨0,v,e,by simp[klook],rfl,rfl,hk,hv⟩⟩
  . have hb:(z==k)=false:=by simpa using hz
    refine⟨r,by simp[Instr.findNow,Instr.sameNow,hk,hb,r1],?_⟩;rcases r2 with⟨g1,g2⟩ |⟨j,u,e',g1,g2,g3,g4⟩
    . exact .inl ⟨by simp[klook,hb,g1],g2⟩
    . exact .inr ⟨j+1,u,e',by simp[klook,hb,g1],by rw[g2];congr 2;omega,by simpa using g3,g4⟩
theorem EntRel.set_new{H:Ax}{K:IntKind}{m:Ez}{es:List MapEntry}(h:EntRel H K m es){z:Int}{v:AV}{val:Value}(hv:Rel H AQ v val)(clk:Nat)(hn:klook z m=none):EntRel H K (I1 z v m) (es++[{key:=.int K z,val:=val,born:=clk}]):=by
 induction h with
 | nil=>exact .cons z v [] _ [] rfl hv .nil
 | cons k u m e es hk hu h ih=>
  unfold klook at hn
  cases hz:z==k with
  | true=>rw[hz]at hn;cases hn
  | false=>
   rw[hz]at hn;have:klook z m=none:=by simpa using hn
   unfold I1;rw[hz];exact .cons k u _ e _ hk hu (ih this)
theorem EntRel.set_old{H:Ax}{K:IntKind}{m:Ez}{es:List MapEntry}(h:EntRel H K m es){z:Int}{v:AV}{val:Value}(hv:Rel H AQ v val): ∀{j:Nat} {v0:AV},klook z m=some (j,v0)->EntRel H K (I1 z v m) (es.modify j fun e=>{e with key:=.int K z,val:=val}):=by
 induction h with
 | nil=>intro j v0 hn;cases hn
 | cons k u m e es hk hu h ih=>
  intro j v0 hn;unfold klook at hn
  cases hz:z==k with
  | true=>
   rw[hz]at hn;simp at hn;obtain⟨rfl,rfl⟩:=hn;unfold I1;rw[hz];have:z=k:=by simpa using hz
   subst this;exact .cons z v m _ es rfl hv h
  | false=>
   rw[hz]at hn;simp only[cond_false,Option.map_eq_some_iff]at hn;obtain⟨⟨j',v'⟩,g1,g2⟩:=hn;simp at g2;obtain⟨rfl,rfl⟩:=g2;unfold I1;rw[hz];exact .cons k u _ e _ hk hu (ih g1)
theorem EntRel.del_old{H:Ax}{K:IntKind}{m:Ez}{es:List MapEntry}(h:EntRel H K m es){z:Int}: ∀{j:Nat} {v0:AV},klook z m=some (j,v0)->EntRel H K (kdel z m) (es.eraseIdx j):=by
 induction h with
 | nil=>intro j v0 hn;cases hn
 | cons k u m e es hk hu h ih=>
  intro j v0 hn;unfold klook at hn
  cases hz:z==k with
  | true=>
   rw[hz]at hn;simp at hn;obtain⟨rfl,rfl⟩:=hn;unfold kdel;rw[hz];exact h
  | false=>
   rw[hz]at hn;simp only[cond_false,Option.map_eq_some_iff]at hn;obtain⟨⟨j',v'⟩,g1,g2⟩:=hn;simp at g2;obtain⟨rfl,rfl⟩:=g2;unfold kdel;rw[hz];exact .cons k u _ e _ hk hu (ih g1)
theorem PC{z:Int}: ∀{m:Ez},klook z m=none->kdel z m=m
 | [],_=>rfl
 |(k,u)::m,hn=>by
  unfold klook at hn
  cases hz:z==k with
  | true=>rw[hz]at hn;cases hn
  | false=>
   rw[hz]at hn;unfold kdel;rw[hz];simp only[cond_false];rw[PC (m:=m) (by simpa using hn)]
theorem DQ{P:Program}{w:World}{kt:TypeId}{K:IntKind}(hk:P.underlying kt=some (.int K))(em:Bool)(z:Int):(Instr.checkKey em 10000 kt (.int K z)).run P w= .ok () w:=by
 rw[Instr.checkKey];simp[Al hk]
theorem D9{P:Program}{w:World}{kt:TypeId}{K:IntKind}(hk:P.underlying kt=some (.int K)){z:Int}{es:List MapEntry}{r:Option (Nat×Value)}(h:Instr.findNow (.int K) (.int K z) es 0=some r):(Instr.findKey kt (.int K z) es).run P w= .ok r w:=by
 simp[Instr.findKey,Al hk,h]
theorem Qy{P:Program}{w:World}{K:IntKind}(z:Int):(Instr.keyThatStays (.int K z) (.int K z)).run P w= .ok (.int K z) w:=by
 have:Instr.sameBits 10000 (.int K z) (.int K z)=true:=by rw[Instr.sameBits];simp
 unfold Instr.keyThatStays;rw[if_pos this];rfl
section
variable {P : Program} {T : Nat -> Option Ar} {o : Oper} {e : As} {h : Ab}
theorem M6(hT:Cn P T){t kt et:TypeId}{x y:Operand}{b:Nat}{K:IntKind}{z:Int}{m:Ez}{i j:Ar}{zv:Value}{z0:AV}(ho:o.op= .lookup t x y true)(hx:Ak e x=some (.map b))(hy:Ak e y=some (.int K z))(hb:h b=some (.map (kvs K m)))
 (hi:T t=some i) (hk:i.k= .map kt et) (hj:T kt=some j) (hjk:j.k= .int K) (hz:(P.info? et).bind (·.zero)=some zv) (hz0:Ii zv=some z0):QLoc P o e h [b] (.tup [(SY z m).getD z0,.bool (SY z m).isSome]):=by
 intro H ι a w s hs h1 h2;have hx':Ak s.env x=some (.map b):=by rw[h1 x (by rw[ho];simp[Op.operands]),hx]
 have hy':Ak s.env y=some (.int K z):=by rw[h1 y (by rw[ho];simp[Op.operands]),hy]
 have hb':s.h b=some (.map (kvs K m)):=by rw[h2 b (by simp),hb]
 obtain⟨info,d,e1,e2,e3,e4,e5,e6⟩:=Aj (hT _ _ hi);obtain⟨info',d',e1',e2',e3',e4',e5',e6'⟩:=Aj (hT _ _ hj);have hd:=G5 (P:=P) (d:=d) (e3▸hk);subst hd;have hd':=Gv (P:=P) (d:=d') (e3'▸hjk);subst hd';have hvy:a.eval y= .int K z:=(Am hs hy').int_inv;obtain⟨r,hr,hr0,hvx⟩:=(Am hs hx').map_inv;obtain⟨r',hl,⟨r1,r2,es,clk,r3,r4,r6⟩,r5⟩:=hs.heap.obj b _ hb' rfl;rw[hr]at hl;cases hl;obtain⟨rr,f1,f2⟩:=(mapCells_iff.1 r4).find z 0;have hzero:(zeroValue et).run P w= .ok zv w:=by
  exact ji
 rcases f2 with⟨g1,rfl⟩ |⟨p,v,en,g1,rfl,g3,g4,g5⟩
 . refine⟨.tuple #[zv,.bool false],?_,?_⟩
   . simp only[SY,g1,Option.map_none,Option.getD_none,Option.isSome_none];exact jv
   . simp[execOp,ho,Instr.lookup,hvx,hvy,Al e2,MapKept.run_getObj_map r3,DQ e2',D9 e2' f1,hzero]
 . refine⟨.tuple #[en.val,.bool true],?_,?_⟩
   . simp only[SY,g1,Option.map_some,Option.getD_some,Option.isSome_some];exact jA
   . simp[execOp,ho,Instr.lookup,hvx,hvy,Al e2,MapKept.run_getObj_map r3,DQ e2',D9 e2' f1]
theorem II{t:TypeId}(K:IntKind)(b:Nat)(ho:o.op= .makeMap t none)(hb:h b=some .free):OLoc P o e h [b] [(b,.map (kvs K []))] (some (.map b)):=by
 intro H ι a w s Q hs h1 h2;have hb':s.h b=some .free:=by rw[h2 b (by simp),hb]
 obtain⟨u1,u2⟩:=hs.heap.upd (o':=.map (kvs K [])) (r':=⟨w.heap.size,0,0,1⟩) (w':=w.alloc (.map #[] 0)) hb' rfl (.inl rfl) (fun _=>.inl (Nat.le_refl _)) (fun rb hlt _=>heap_alloc_old w _ hlt) (by simp) rfl rfl
  ⟨rfl,by simp[Ent.solid],#[],0,heap_alloc_new w _,mapCells_iff.2 .nil,.nil _⟩
 have hrun:(execOp a.eval o).run P w= .ok (.value (.map (some w.heap.size))) (w.alloc (.map #[] 0)):=by
  simp[execOp,ho,Instr.makeMap]
 unfold Oper.wp;rw[hrun];exact⟨_,H,_,rfl,fun x ex=>by cases ex;exact .map _ b _ (Bb _ _ _) rfl,u1,u2⟩
theorem IK{H:Ax}{ι:Ba}{s:Ai}{a:Act}{w:World}(hs:Sim H ι s a w){b:Nat}{K:IntKind}{m m':Ez}{r:Ent}{es es':Array MapEntry}{clk clk':Nat}(hb:s.h b=some (.map (kvs K m)))(hr:ι b=some r)(r1:r.sz=0)(r2:r.solid)
 (r3:w.heap[r.rb]?=some (.map es clk)) (hm:EntRel H K m' es'.toList) (hbo:BornOk clk' (es'.toList.map (·.born))):
 HeapRel H ι (hput s.h b (.map (kvs K m'))) {w with heap:=w.heap.setIfInBounds r.rb (.map es' clk')}/\Step H ι s.h w H ι (hput s.h b (.map (kvs K m'))) {w with heap:=w.heap.setIfInBounds r.rb (.map es' clk')}:=by
 have hlt:r.rb<w.heap.size:=(Array.getElem?_eq_some_iff.1 r3).1;have:=hs.heap.upd (o':=.map (kvs K m')) (r':=r) (w':={w with heap:=w.heap.setIfInBounds r.rb (.map es' clk')}) hb rfl (.inr ⟨r,hr,rfl,.inl rfl⟩) (fun _=>.inr ⟨r,hr,rfl,r2,rfl⟩)
  (fun rb _ hne=>by
   have:rb≠r.rb:=hne r hr rfl r2;simp[Array.getElem?_setIfInBounds_ne (Ne.symm this)]) (by simp) rfl rfl
  ⟨r1,r2,es',clk',by simp[hlt],mapCells_iff.2 hm,hbo⟩
 rwa[show Dp ι b r=ι from by
  funext c
  by_cases hc:c=b
  . subst hc;rw[Bb,hr]
  . rw[C7 _ _ hc]]at this
theorem o_mapUpdate(hT:Cn P T){t kt et:TypeId}{x y u:Operand}{b:Nat}{K:IntKind}{z:Int}{m:Ez}{q:AV}{i j:Ar}(ho:o.op= .mapUpdate t x y u)(hd:o.dst=none)(hx:Ak e x=some (.map b))(hy:Ak e y=some (.int K z))(hu:Ak e u=some q)(hp:q.isPure=true)
 (hb:h b=some (.map (kvs K m))) (hi:T t=some i) (hk:i.k= .map kt et) (hj:T kt=some j) (hjk:j.k= .int K):OLoc P o e h [b] [(b,.map (kvs K (I1 z q m)))] none:=by
 intro H ι a w s Q hs h1 h2;have hx':Ak s.env x=some (.map b):=by rw[h1 x (by rw[ho];simp[Op.operands]),hx]
 have hy':Ak s.env y=some (.int K z):=by rw[h1 y (by rw[ho];simp[Op.operands]),hy]
 have hu':Ak s.env u=some q:=by rw[h1 u (by rw[ho];simp[Op.operands]),hu]
 have hb':s.h b=some (.map (kvs K m)):=by rw[h2 b (by simp),hb]
 obtain⟨info,d,e1,e2,e3,e4,e5,e6⟩:=Aj (hT _ _ hi);obtain⟨info',d',e1',e2',e3',e4',e5',e6'⟩:=Aj (hT _ _ hj);have hd1:=G5 (P:=P) (d:=d) (e3▸hk);subst hd1;have hd':=Gv (P:=P) (d:=d') (e3'▸hjk);subst hd';have hvy:a.eval y= .int K z:=(Am hs hy').int_inv;obtain⟨r,hr,hr0,hvx⟩:=(Am hs hx').map_inv;obtain⟨r',hl,⟨r1,r2,es,clk,r3,r4,r6⟩,r5⟩:=hs.heap.obj b _ hb' rfl;rw[hr]at hl;cases hl;have hrv:=FR (ι':=AQ) hp (Am hs hu');have hE:=mapCells_iff.1 r4;obtain⟨rr,f1,f2⟩:=hE.find z 0;unfold Oper.wp;rcases f2 with⟨g1,rfl⟩ |⟨p,v,en,g1,rfl,g3,g4,g5⟩
 . have hrun:(execOp a.eval o).run P w= .ok .skip {w with heap:=w.heap.setIfInBounds r.rb (.map (es.push {key:=.int K z,val:=a.eval u,born:=clk}) (clk+1))}:=by
    simp[execOp,ho,Instr.mapUpdate,hvx,hvy,Al e2,MapKept.run_getObj_map r3,DQ e2',D9 e2' f1,MapKept.run_setObj_map _ r3]
   rw[hrun];obtain⟨u1,u2⟩:=IK hs (es':=es.push {key:=.int K z,val:=a.eval u,born:=clk}) (clk':=clk+1) hb' hr r1 r2 r3 (m':=I1 z q m) (by rw[Array.toList_push];exact hE.set_new hrv clk g1) (by rw[Array.toList_push,List.map_append];exact r6.snoc);exact cC
 . have hrun:(execOp a.eval o).run P w= .ok .skip {w with heap:=w.heap.setIfInBounds r.rb (.map (es.modify p fun e=>{e with key:=.int K z,val:=a.eval u}) clk)}:=by
    have g3':es[p]?=some en:=by simpa using g3
    simp[execOp,ho,Instr.mapUpdate,hvx,hvy,Al e2,MapKept.run_getObj_map r3,DQ e2',D9 e2' f1,MapKept.run_setObj_map _ r3,g3',g4,Qy]
   rw[hrun];obtain⟨u1,u2⟩:=IK hs (es':=es.modify p fun e=>{e with key:=.int K z,val:=a.eval u}) (clk':=clk) hb' hr r1 r2 r3 (m':=I1 z q m) (by rw[Array.toList_modify];exact hE.set_old hrv g1) (by rw[LM];exact r6);exact cC
theorem Nl(hT:Cn P T){t kt et tk:TypeId}{x y:Operand}{b:Nat}{K:IntKind}{z:Int}{m:Ez}{i j:Ar}(ho:o.op= .call {callee:=.builtin .delete,args:= #[x,y],argTypes:= #[t,tk]})(hd:o.dst=none)(hx:Ak e x=some (.map b))(hy:Ak e y=some (.int K z))
 (hb:h b=some (.map (kvs K m))) (hi:T t=some i) (hk:i.k= .map kt et) (hj:T kt=some j) (hjk:j.k= .int K):OLoc P o e h [b] [(b,.map (kvs K (kdel z m)))] none:=by
 intro H ι a w s Q hs h1 h2;have hx':Ak s.env x=some (.map b):=by rw[h1 x HC,hx]
 have hy':Ak s.env y=some (.int K z):=by rw[h1 y HC,hy]
 have hb':s.h b=some (.map (kvs K m)):=by rw[h2 b (by simp),hb]
 obtain⟨info,d,e1,e2,e3,e4,e5,e6⟩:=Aj (hT _ _ hi);obtain⟨info',d',e1',e2',e3',e4',e5',e6'⟩:=Aj (hT _ _ hj);have hd1:=G5 (P:=P) (d:=d) (e3▸hk);subst hd1;have hd':=Gv (P:=P) (d:=d') (e3'▸hjk);subst hd';have hvy:a.eval y= .int K z:=(Am hs hy').int_inv;obtain⟨r,hr,hr0,hvx⟩:=(Am hs hx').map_inv;obtain⟨r',hl,⟨r1,r2,es,clk,r3,r4,r6⟩,r5⟩:=hs.heap.obj b _ hb' rfl;rw[hr]at hl;cases hl;have hE:=mapCells_iff.1 r4;obtain⟨rr,f1,f2⟩:=hE.find z 0;unfold Oper.wp;rcases f2 with⟨g1,rfl⟩ |⟨p,v,en,g1,rfl,g3,g4,g5⟩
 . have hrun:(execOp a.eval o).run P w= .ok (.value (.tuple #[])) {w with heap:=w.heap.setIfInBounds r.rb (.map es clk)}:=by
    simp[execOp,ho,resolve,invoke,builtin,Builtin.delete_,hvx,hvy,Al e2,MapKept.run_getObj_map r3,DQ e2',D9 e2' f1,MapKept.run_setObj_map _ r3]
   rw[hrun];obtain⟨u1,u2⟩:=IK hs (es':=es) (clk':=clk) hb' hr r1 r2 r3 (m':=kdel z m) (by rw[PC g1];exact hE) r6;exact⟨_,H,ι,rfl,(fun x ex=>by cases ex),u1,u2⟩
 . have hrun:(execOp a.eval o).run P w= .ok (.value (.tuple #[])) {w with heap:=w.heap.setIfInBounds r.rb (.map (es.eraseIdxIfInBounds p) clk)}:=by
    simp[execOp,ho,resolve,invoke,builtin,Builtin.delete_,hvx,hvy,Al e2,MapKept.run_getObj_map r3,DQ e2',D9 e2' f1,MapKept.run_setObj_map _ r3]
   rw[hrun];obtain⟨u1,u2⟩:=IK hs (es':=es.eraseIdxIfInBounds p) (clk':=clk) hb' hr r1 r2 r3 (m':=kdel z m) (by rw[Array.toList_eraseIdxIfInBounds];exact hE.del_old g1) (by rw[Array.toList_eraseIdxIfInBounds];exact r6.sub ((List.eraseIdx_sublist _ _).map _));exact⟨_,H,ι,rfl,(fun x ex=>by cases ex),u1,u2⟩
end
section
variable {P : Program} {T : Nat -> Option Ar} {o : Oper} {e : As} {h : Ab}
theorem Sq(hT:Cn P T){t t':TypeId}{x y:Operand}{a b:Bool}{i:Ar}(neg:Bool)(ho:o.op= .binOp (bif neg then .neq else .eql) t x y t')(hx:Ak e x=some (.bool a))(hy:Ak e y=some (.bool b))(hi:T t=some i)(hk:i.k= .bool):QLoc P o e h [] (.bool (bif neg then a !=b else a==b)):=by
 intro H ι act w s hs g1 g2;have hx':Ak s.env x=some (.bool a):=by rw[g1 x (by rw[ho];simp[Op.operands]),hx]
 have hy':Ak s.env y=some (.bool b):=by rw[g1 y (by rw[ho];simp[Op.operands]),hy]
 have hvx:act.eval x= .bool a:=(Am hs hx').bool_inv;have hvy:act.eval y= .bool b:=(Am hs hy').bool_inv;obtain⟨info,d,e1,e2,e3,e4,e5,e6⟩:=Aj (hT _ _ hi);have hd:=Vq (P:=P) (d:=d) (e3▸hk);subst hd;have he:(Op.equalIn 10000 t (.bool a) (.bool b)).run P w= .ok (a==b) w:=by
  rw[Op.equalIn];simp[Al e2]
 refine⟨_,.bool _ _,?_⟩
 cases neg with
 | false=>
  simp only[cond_false]at ho;simp only[execOp,ho,hvx,hvy,eqGuard,binOp,Op.equal,Op.maxDepth,Sem.run_bind,Result.andThen_ok,Sem.run_pure,he,cond_false,Bool.not_true,Bool.false_eq_true,if_false]
 | true=>
  simp only[cond_true]at ho;simp only[execOp,ho,hvx,hvy,eqGuard,binOp,Op.equal,Op.maxDepth,Sem.run_bind,Result.andThen_ok,Sem.run_pure,he,cond_true,Bool.not_true,Bool.false_eq_true,if_false]
  cases a<;>cases b<;>rfl
theorem ny{x:Operand}{t:TypeId}{k:IntKind}{n:Int}(ho:o.op= .unOp .neg t x)(hx:Ak e x=some (.int k n)):QLoc P o e h [] (.int k (k.wrap (0-n))):=by
 intro H ι a w s hs h1 h2;have hx':Ak s.env x=some (.int k n):=by rw[h1 x (by rw[ho];simp[Op.operands]),hx]
 have hvx:a.eval x= .int k n:=(Am hs hx').int_inv;exact⟨_,.int _ _ _,by simp[execOp,ho,hvx,Op.unary,Op.intArith]⟩
end
abbrev qL:Ar:=⟨.other,1,0,[]⟩
abbrev qK:Ar:=⟨.fn,1,8,[.val .nilFunc]⟩
abbrev qJ:Ar:=⟨.int .i64,1,8,[.int .i64 0]⟩
abbrev qz:Ar:=⟨.int .i64,1,8,[.int .i64 0]⟩
abbrev qI:Ar:=⟨.bool,1,1,[.bool false]⟩
abbrev qH:Ar:=⟨.int .u8,1,1,[.int .u8 0]⟩
abbrev qG:Ar:=⟨.int .u8,1,1,[.int .u8 0]⟩
abbrev qF:Ar:=⟨.struct [(0,2),(1,3),(2,4),(3,6)],4,24,[.int .i64 0,.int .i64 0,.bool false,.int .u8 0]⟩
abbrev qE:Ar:=⟨.struct [(0,2),(1,3),(2,4),(3,6)],4,24,[.int .i64 0,.int .i64 0,.bool false,.int .u8 0]⟩
abbrev qD:Ar:=⟨.string,1,16,[.str ⟨#[]⟩]⟩
abbrev qg:Ar:=⟨.string,1,16,[.str ⟨#[]⟩]⟩
abbrev qf:Ar:=⟨.string,1,16,[.str ⟨#[]⟩]⟩
abbrev qd:Ar:=⟨.int .u64,1,8,[.int .u64 0]⟩
abbrev qc:Ar:=⟨.struct [(0,9),(1,12)],2,24,[.str ⟨#[]⟩,.int .u64 0]⟩
abbrev qa:Ar:=⟨.struct [(0,9),(1,12)],2,24,[.str ⟨#[]⟩,.int .u64 0]⟩
abbrev p9:Ar:=⟨.ptr 188,1,8,[.nilp]⟩
abbrev p8:Ar:=⟨.ptr 191,1,8,[.nilp]⟩
abbrev p7:Ar:=⟨.ptr 200,1,8,[.nilp]⟩
abbrev p6:Ar:=⟨.struct [(0,17)],1,8,[.nilp]⟩
abbrev p5:Ar:=⟨.struct [(0,17)],1,8,[.nilp]⟩
abbrev p4:Ar:=⟨.other,1,16,[.val .nilIface]⟩
abbrev pZ:Ar:=⟨.int .i32,1,4,[.int .i32 0]⟩
abbrev pY:Ar:=⟨.slice 41,1,24,[.nil]⟩
abbrev pX:Ar:=⟨.struct [(0,3),(1,22)],2,32,[.int .i64 0,.nil]⟩
abbrev pW:Ar:=⟨.struct [(0,3),(1,22)],2,32,[.int .i64 0,.nil]⟩
abbrev pV:Ar:=⟨.slice 3,1,24,[.nil]⟩
abbrev pU:Ar:=⟨.fn,1,8,[.val .nilFunc]⟩
abbrev pT:Ar:=⟨.fn,1,8,[.val .nilFunc]⟩
abbrev pS:Ar:=⟨.slice 34,1,24,[.nil]⟩
abbrev pR:Ar:=⟨.int .i64,1,8,[.int .i64 0]⟩
abbrev pQ:Ar:=⟨.other,1,0,[]⟩
abbrev pP:Ar:=⟨.fn,1,8,[.val .nilFunc]⟩
abbrev pO:Ar:=⟨.fn,1,8,[.val .nilFunc]⟩
abbrev pN:Ar:=⟨.fn,1,8,[.val .nilFunc]⟩
abbrev pM:Ar:=⟨.slice 43,1,24,[.nil]⟩
abbrev pL:Ar:=⟨.slice 112,1,24,[.nil]⟩
abbrev pK:Ar:=⟨.struct [(0,35)],1,24,[.nil]⟩
abbrev pJ:Ar:=⟨.struct [(0,35)],1,24,[.nil]⟩
abbrev pI:Ar:=⟨.slice 25,1,24,[.nil]⟩
abbrev pH:Ar:=⟨.slice 80,1,24,[.nil]⟩
abbrev pG:Ar:=⟨.struct [(0,3),(1,39)],2,32,[.int .i64 0,.nil]⟩
abbrev pF:Ar:=⟨.struct [(0,3),(1,39)],2,32,[.int .i64 0,.nil]⟩
abbrev pE:Ar:=⟨.struct [(0,3),(1,37),(2,38),(3,41)],5,88,[.int .i64 0,.nil,.nil,.int .i64 0,.nil]⟩
abbrev pD:Ar:=⟨.struct [(0,3),(1,37),(2,38),(3,41)],5,88,[.int .i64 0,.nil,.nil,.int .i64 0,.nil]⟩
abbrev pC:Ar:=⟨.fn,1,8,[.val .nilFunc]⟩
abbrev pB:Ar:=⟨.fn,1,8,[.val .nilFunc]⟩
abbrev pA:Ar:=⟨.fn,1,8,[.val .nilFunc]⟩
abbrev pz:Ar:=⟨.struct [(0,24),(2,24),(4,28),(5,9)],6,104,[.int .i64 0,.nil,.int .i64 0,.nil,.nil,.str ⟨#[]⟩]⟩
abbrev py:Ar:=⟨.struct [(0,24),(2,24),(4,28),(5,9)],6,104,[.int .i64 0,.nil,.int .i64 0,.nil,.nil,.str ⟨#[]⟩]⟩
abbrev px:Ar:=⟨.fn,1,8,[.val .nilFunc]⟩
abbrev pw:Ar:=⟨.other,1,0,[]⟩
abbrev pt:Ar:=⟨.fn,1,8,[.val .nilFunc]⟩
abbrev pr:Ar:=⟨.fn,1,8,[.val .nilFunc]⟩
abbrev pq:Ar:=⟨.fn,1,8,[.val .nilFunc]⟩
abbrev pp:Ar:=⟨.fn,1,8,[.val .nilFunc]⟩
abbrev po:Ar:=⟨.fn,1,8,[.val .nilFunc]⟩
abbrev pn:Ar:=⟨.fn,1,8,[.val .nilFunc]⟩
abbrev pm:Ar:=⟨.fn,1,8,[.val .nilFunc]⟩
abbrev pl:Ar:=⟨.struct [(0,3),(1,9),(2,3)],3,32,[.int .i64 0,.str ⟨#[]⟩,.int .i64 0]⟩
abbrev pk:Ar:=⟨.struct [(0,3),(1,9),(2,3)],3,32,[.int .i64 0,.str ⟨#[]⟩,.int .i64 0]⟩
abbrev pj:Ar:=⟨.fn,1,8,[.val .nilFunc]⟩
abbrev pi:Ar:=⟨.fn,1,8,[.val .nilFunc]⟩
abbrev ph:Ar:=⟨.fn,1,8,[.val .nilFunc]⟩
abbrev pg:Ar:=⟨.struct [(0,24),(2,24),(4,24),(6,28),(7,28)],8,144,[.int .i64 0,.nil,.int .i64 0,.nil,.int .i64 0,.nil,.nil,.nil]⟩
abbrev pf:Ar:=⟨.struct [(0,24),(2,24),(4,24),(6,28),(7,28)],8,144,[.int .i64 0,.nil,.int .i64 0,.nil,.int .i64 0,.nil,.nil,.nil]⟩
abbrev pe:Ar:=⟨.fn,1,8,[.val .nilFunc]⟩
abbrev pd:Ar:=⟨.fn,1,8,[.val .nilFunc]⟩
abbrev pc:Ar:=⟨.fn,1,8,[.val .nilFunc]⟩
abbrev pb:Ar:=⟨.fn,1,8,[.val .nilFunc]⟩
abbrev o9:Ar:=⟨.other,1,16,[.val .nilIface]⟩
abbrev o8:Ar:=⟨.other,1,16,[.val .nilIface]⟩
abbrev o7:Ar:=⟨.other,1,0,[]⟩
abbrev oZ:Ar:=⟨.fn,1,8,[.val .nilFunc]⟩
abbrev oW:Ar:=⟨.fn,1,8,[.val .nilFunc]⟩
abbrev oV:Ar:=⟨.fn,1,8,[.val .nilFunc]⟩
abbrev oU:Ar:=⟨.other,1,0,[]⟩
abbrev oT:Ar:=⟨.fn,1,8,[.val .nilFunc]⟩
abbrev oS:Ar:=⟨.fn,1,8,[.val .nilFunc]⟩
abbrev oQ:Ar:=⟨.slice 91,1,24,[.nil]⟩
abbrev oP:Ar:=⟨.struct [(0,78),(1,3),(2,3),(3,3),(4,3)],5,56,[.nil,.int .i64 0,.int .i64 0,.int .i64 0,.int .i64 0]⟩
abbrev oO:Ar:=⟨.struct [(0,78),(1,3),(2,3),(3,3),(4,3)],5,56,[.nil,.int .i64 0,.int .i64 0,.int .i64 0,.int .i64 0]⟩
abbrev oM:Ar:=⟨.fn,1,8,[.val .nilFunc]⟩
abbrev oL:Ar:=⟨.fn,1,8,[.val .nilFunc]⟩
abbrev oK:Ar:=⟨.ptr 87,1,8,[.nilp]⟩
abbrev oJ:Ar:=⟨.slice 89,1,24,[.nil]⟩
abbrev oI:Ar:=⟨.slice 5,1,24,[.nil]⟩
abbrev oH:Ar:=⟨.struct [(0,24),(2,9),(3,3),(4,84),(5,85),(6,3),(7,3),(8,3)],9,128,[.int .i64 0,.nil,.str ⟨#[]⟩,.int .i64 0,.nil,.nil,.int .i64 0,.int .i64 0,.int .i64 0]⟩
abbrev oG:Ar:=⟨.struct [(0,24),(2,9),(3,3),(4,84),(5,85),(6,3),(7,3),(8,3)],9,128,[.int .i64 0,.nil,.str ⟨#[]⟩,.int .i64 0,.nil,.nil,.int .i64 0,.int .i64 0,.int .i64 0]⟩
abbrev oF:Ar:=⟨.fn,1,8,[.val .nilFunc]⟩
abbrev oD:Ar:=⟨.int .u32,1,4,[.int .u32 0]⟩
abbrev oC:Ar:=⟨.struct [(0,3),(1,3),(2,3),(3,3),(4,3),(5,3),(6,3),(7,89)],8,64,[.int .i64 0,.int .i64 0,.int .i64 0,.int .i64 0,.int .i64 0,.int .i64 0,.int .i64 0,.int .u32 0]⟩
abbrev ty91:Ar:=⟨.struct [(0,3),(1,3),(2,3),(3,3),(4,3),(5,3),(6,3),(7,89)],8,64,[.int .i64 0,.int .i64 0,.int .i64 0,.int .i64 0,.int .i64 0,.int .i64 0,.int .i64 0,.int .u32 0]⟩
abbrev oB:Ar:=⟨.fn,1,8,[.val .nilFunc]⟩
abbrev oz:Ar:=⟨.struct [(0,3)],1,8,[.int .i64 0]⟩
abbrev oy:Ar:=⟨.struct [(0,3)],1,8,[.int .i64 0]⟩
abbrev ov:Ar:=⟨.fn,1,8,[.val .nilFunc]⟩
abbrev ou:Ar:=⟨.struct [(0,94),(1,95)],2,16,[.int .i64 0,.val .nilFunc]⟩
abbrev oo:Ar:=⟨.struct [(0,94),(1,95)],2,16,[.int .i64 0,.val .nilFunc]⟩
abbrev om:Ar:=⟨.struct [(0,94)],1,8,[.int .i64 0]⟩
abbrev ol:Ar:=⟨.struct [(0,94)],1,8,[.int .i64 0]⟩
abbrev nj:Ar:=⟨.struct [(0,3),(1,3),(2,3),(3,3)],4,32,[.int .i64 0,.int .i64 0,.int .i64 0,.int .i64 0]⟩
abbrev ni:Ar:=⟨.struct [(0,3),(1,3),(2,3),(3,3)],4,32,[.int .i64 0,.int .i64 0,.int .i64 0,.int .i64 0]⟩
abbrev nh:Ar:=⟨.fn,1,8,[.val .nilFunc]⟩
abbrev ng:Ar:=⟨.fn,1,8,[.val .nilFunc]⟩
abbrev nf:Ar:=⟨.fn,1,8,[.val .nilFunc]⟩
abbrev na:Ar:=⟨.fn,1,8,[.val .nilFunc]⟩
abbrev m9:Ar:=⟨.fn,1,8,[.val .nilFunc]⟩
abbrev m8:Ar:=⟨.fn,1,8,[.val .nilFunc]⟩
abbrev m7:Ar:=⟨.fn,1,8,[.val .nilFunc]⟩
abbrev m6:Ar:=⟨.fn,1,8,[.val .nilFunc]⟩
abbrev m5:Ar:=⟨.fn,1,8,[.val .nilFunc]⟩
abbrev m4:Ar:=⟨.fn,1,8,[.val .nilFunc]⟩
abbrev m3:Ar:=⟨.slice 4,1,24,[.nil]⟩
abbrev mZ:Ar:=⟨.fn,1,8,[.val .nilFunc]⟩
abbrev mY:Ar:=⟨.ptr 118,1,8,[.nilp]⟩
abbrev mX:Ar:=⟨.fn,1,8,[.val .nilFunc]⟩
abbrev mW:Ar:=⟨.slice 157,1,24,[.nil]⟩
abbrev mV:Ar:=⟨.struct [(0,41),(2,38),(3,38),(4,116),(5,35),(6,25),(7,112)],8,176,[.int .i64 0,.nil,.nil,.nil,.nil,.nil,.nil,.nil]⟩
abbrev mU:Ar:=⟨.struct [(0,41),(2,38),(3,38),(4,116),(5,35),(6,25),(7,112)],8,176,[.int .i64 0,.nil,.nil,.nil,.nil,.nil,.nil,.nil]⟩
abbrev mS:Ar:=⟨.fn,1,8,[.val .nilFunc]⟩
abbrev mR:Ar:=⟨.struct [(0,35),(1,35)],2,48,[.nil,.nil]⟩
abbrev mQ:Ar:=⟨.struct [(0,35),(1,35)],2,48,[.nil,.nil]⟩
abbrev mP:Ar:=⟨.fn,1,8,[.val .nilFunc]⟩
abbrev mO:Ar:=⟨.fn,1,8,[.val .nilFunc]⟩
abbrev mN:Ar:=⟨.fn,1,8,[.val .nilFunc]⟩
abbrev mM:Ar:=⟨.fn,1,8,[.val .nilFunc]⟩
abbrev mL:Ar:=⟨.ptr 129,1,8,[.nilp]⟩
abbrev mK:Ar:=⟨.slice 132,1,24,[.nil]⟩
abbrev mJ:Ar:=⟨.struct [(0,127)],1,24,[.nil]⟩
abbrev mI:Ar:=⟨.struct [(0,127)],1,24,[.nil]⟩
abbrev mH:Ar:=⟨.fn,1,8,[.val .nilFunc]⟩
abbrev mG:Ar:=⟨.struct [(0,3),(1,3),(2,3),(3,3),(4,3),(5,3),(6,3),(7,3),(8,89)],9,72,[.int .i64 0,.int .i64 0,.int .i64 0,.int .i64 0,.int .i64 0,.int .i64 0,.int .i64 0,.int .i64 0,.int .u32 0]⟩
abbrev mE:Ar:=⟨.struct [(0,3),(1,3),(2,3),(3,3),(4,3),(5,3),(6,3),(7,3),(8,89)],9,72,[.int .i64 0,.int .i64 0,.int .i64 0,.int .i64 0,.int .i64 0,.int .i64 0,.int .i64 0,.int .i64 0,.int .u32 0]⟩
abbrev mD:Ar:=⟨.ptr 137,1,8,[.nilp]⟩
abbrev mC:Ar:=⟨.fn,1,8,[.val .nilFunc]⟩
abbrev mB:Ar:=⟨.slice 139,1,24,[.nil]⟩
abbrev mA:Ar:=⟨.struct [(0,126),(1,25),(2,135),(3,3)],4,64,[.nilp,.nil,.nil,.int .i64 0]⟩
abbrev mz:Ar:=⟨.struct [(0,126),(1,25),(2,135),(3,3)],4,64,[.nilp,.nil,.nil,.int .i64 0]⟩
abbrev my:Ar:=⟨.struct [(0,3),(1,3),(2,3),(3,3),(4,3),(5,3)],6,48,[.int .i64 0,.int .i64 0,.int .i64 0,.int .i64 0,.int .i64 0,.int .i64 0]⟩
abbrev mx:Ar:=⟨.struct [(0,3),(1,3),(2,3),(3,3),(4,3),(5,3)],6,48,[.int .i64 0,.int .i64 0,.int .i64 0,.int .i64 0,.int .i64 0,.int .i64 0]⟩
abbrev mw:Ar:=⟨.other,1,0,[]⟩
abbrev mv:Ar:=⟨.fn,1,8,[.val .nilFunc]⟩
abbrev mr:Ar:=⟨.int .u64,1,8,[.int .u64 0]⟩
abbrev mq:Ar:=⟨.fn,1,8,[.val .nilFunc]⟩
abbrev mo:Ar:=⟨.fn,1,8,[.val .nilFunc]⟩
abbrev mn:Ar:=⟨.fn,1,8,[.val .nilFunc]⟩
abbrev mm:Ar:=⟨.map 3 89,1,8,[.val (.map none)]⟩
abbrev ml:Ar:=⟨.other,1,0,[]⟩
abbrev mh:Ar:=⟨.fn,1,8,[.val .nilFunc]⟩
abbrev mg:Ar:=⟨.slice 175,1,24,[.nil]⟩
abbrev mf:Ar:=⟨.struct [(0,25),(1,149)],2,48,[.nil,.nil]⟩
abbrev me:Ar:=⟨.struct [(0,25),(1,149)],2,48,[.nil,.nil]⟩
abbrev md:Ar:=⟨.fn,1,8,[.val .nilFunc]⟩
abbrev mc:Ar:=⟨.struct [(0,3),(1,4),(2,4)],3,16,[.int .i64 0,.bool false,.bool false]⟩
abbrev mb:Ar:=⟨.struct [(0,3),(1,4),(2,4)],3,16,[.int .i64 0,.bool false,.bool false]⟩
abbrev ma:Ar:=⟨.ptr 154,1,8,[.nilp]⟩
abbrev l9:Ar:=⟨.fn,1,8,[.val .nilFunc]⟩
abbrev l8:Ar:=⟨.slice 161,1,24,[.nil]⟩
abbrev l7:Ar:=⟨.fn,1,8,[.val .nilFunc]⟩
abbrev l0:Ar:=⟨.slice 154,1,24,[.nil]⟩
abbrev lZ:Ar:=⟨.struct [(0,3),(1,159)],2,32,[.int .i64 0,.nil]⟩
abbrev lY:Ar:=⟨.struct [(0,3),(1,159)],2,32,[.int .i64 0,.nil]⟩
abbrev lX:Ar:=⟨.fn,1,8,[.val .nilFunc]⟩
abbrev lW:Ar:=⟨.fn,1,8,[.val .nilFunc]⟩
abbrev lV:Ar:=⟨.ptr 168,1,8,[.nilp]⟩
abbrev lU:Ar:=⟨.fn,1,8,[.val .nilFunc]⟩
abbrev lT:Ar:=⟨.slice 170,1,24,[.nil]⟩
abbrev lS:Ar:=⟨.struct [(0,38),(1,38),(2,166),(3,166),(4,166),(5,166),(6,25),(7,112)],8,192,[.nil,.nil,.nil,.nil,.nil,.nil,.nil,.nil]⟩
abbrev lR:Ar:=⟨.struct [(0,38),(1,38),(2,166),(3,166),(4,166),(5,166),(6,25),(7,112)],8,192,[.nil,.nil,.nil,.nil,.nil,.nil,.nil,.nil]⟩
abbrev lQ:Ar:=⟨.slice 142,1,24,[.nil]⟩
abbrev lP:Ar:=⟨.slice 142,1,24,[.nil]⟩
abbrev lO:Ar:=⟨.fn,1,8,[.val .nilFunc]⟩
abbrev lN:Ar:=⟨.fn,1,8,[.val .nilFunc]⟩
abbrev lM:Ar:=⟨.fn,1,8,[.val .nilFunc]⟩
abbrev lL:Ar:=⟨.ptr 151,1,8,[.nilp]⟩
abbrev lK:Ar:=⟨.map 3 4,1,8,[.val (.map none)]⟩
abbrev lJ:Ar:=⟨.ptr 161,1,8,[.nilp]⟩
abbrev lI:Ar:=⟨.other,1,0,[]⟩
abbrev lH:Ar:=⟨.fn,1,8,[.val .nilFunc]⟩
abbrev lG:Ar:=⟨.fn,1,8,[.val .nilFunc]⟩
abbrev lF:Ar:=⟨.fn,1,8,[.val .nilFunc]⟩
abbrev lE:Ar:=⟨.fn,1,8,[.val .nilFunc]⟩
abbrev lD:Ar:=⟨.fn,1,8,[.val .nilFunc]⟩
abbrev lC:Ar:=⟨.fn,1,8,[.val .nilFunc]⟩
abbrev lB:Ar:=⟨.fn,1,8,[.val .nilFunc]⟩
abbrev lA:Ar:=⟨.fn,1,8,[.val .nilFunc]⟩
abbrev lz:Ar:=⟨.fn,1,8,[.val .nilFunc]⟩
abbrev ly:Ar:=⟨.struct [(0,17),(1,17),(2,17),(3,9)],4,40,[.nilp,.nilp,.nilp,.str ⟨#[]⟩]⟩
abbrev lx:Ar:=⟨.struct [(0,17),(1,17),(2,17),(3,9)],4,40,[.nilp,.nilp,.nilp,.str ⟨#[]⟩]⟩
abbrev lw:Ar:=⟨.array 0 16,0,0,[]⟩
abbrev lv:Ar:=⟨.other,0,0,[]⟩
abbrev lu:Ar:=⟨.other,0,0,[]⟩
abbrev lr:Ar:=⟨.fn,1,8,[.val .nilFunc]⟩
abbrev lq:Ar:=⟨.int .u8,1,1,[.int .u8 0]⟩
abbrev lp:Ar:=⟨.int .u8,1,1,[.int .u8 0]⟩
abbrev ln:Ar:=⟨.fn,1,8,[.val .nilFunc]⟩
abbrev lm:Ar:=⟨.ptr 5,1,8,[.nilp]⟩
abbrev ll:Ar:=⟨.int .i32,1,4,[.int .i32 0]⟩
abbrev lk:Ar:=⟨.int .i32,1,4,[.int .i32 0]⟩
abbrev lj:Ar:=⟨.struct [(0,12),(1,12),(2,89),(3,193),(4,5),(5,5),(6,194),(7,195),(8,196),(9,197),(10,198)],11,48,[.int .u64 0,.int .u64 0,.int .u32 0,.int .u8 0,.int .u8 0,.int .u8 0,.int .u8 0,.val .nilFunc,.nilp,.int .i32 0,.int .i32 0]⟩
abbrev li:Ar:=⟨.struct [(0,12),(1,12),(2,89),(3,193),(4,5),(5,5),(6,194),(7,195),(8,196),(9,197),(10,198)],11,48,[.int .u64 0,.int .u64 0,.int .u32 0,.int .u8 0,.int .u8 0,.int .u8 0,.int .u8 0,.val .nilFunc,.nilp,.int .i32 0,.int .i32 0]⟩
abbrev lh:Ar:=⟨.fn,1,8,[.val .nilFunc]⟩
abbrev lf:Ar:=⟨.other,1,0,[]⟩
abbrev lc:Ar:=⟨.fn,1,8,[.val .nilFunc]⟩
abbrev la:Ar:=⟨.ptr 208,1,8,[.nilp]⟩
abbrev k9:Ar:=⟨.map 218 3,1,8,[.val (.map none)]⟩
abbrev k8:Ar:=⟨.slice 218,1,24,[.nil]⟩
abbrev k7:Ar:=⟨.struct [(0,3),(1,205),(2,206)],3,40,[.int .i64 0,.val (.map none),.nil]⟩
abbrev kZ:Ar:=⟨.struct [(0,3),(1,205),(2,206)],3,40,[.int .i64 0,.val (.map none),.nil]⟩
abbrev kY:Ar:=⟨.slice 214,1,24,[.nil]⟩
abbrev kX:Ar:=⟨.struct [(0,204),(1,25),(2,209),(3,3)],4,64,[.nilp,.nil,.nil,.int .i64 0]⟩
abbrev kV:Ar:=⟨.struct [(0,204),(1,25),(2,209),(3,3)],4,64,[.nilp,.nil,.nil,.int .i64 0]⟩
abbrev kU:Ar:=⟨.fn,1,8,[.val .nilFunc]⟩
abbrev kT:Ar:=⟨.array 6 3,6,48,[.int .i64 0,.int .i64 0,.int .i64 0,.int .i64 0,.int .i64 0,.int .i64 0]⟩
abbrev kR:Ar:=⟨.array 6 3,6,48,[.int .i64 0,.int .i64 0,.int .i64 0,.int .i64 0,.int .i64 0,.int .i64 0]⟩
abbrev kQ:Ar:=⟨.ptr 211,1,8,[.nilp]⟩
abbrev kP:Ar:=⟨.fn,1,8,[.val .nilFunc]⟩
abbrev kO:Ar:=⟨.array 4 3,4,32,[.int .i64 0,.int .i64 0,.int .i64 0,.int .i64 0]⟩
abbrev kN:Ar:=⟨.array 4 3,4,32,[.int .i64 0,.int .i64 0,.int .i64 0,.int .i64 0]⟩
abbrev kM:Ar:=⟨.fn,1,8,[.val .nilFunc]⟩
abbrev kL:Ar:=⟨.other,1,0,[]⟩
abbrev kK:Ar:=⟨.fn,1,8,[.val .nilFunc]⟩
abbrev kJ:Ar:=⟨.other,1,0,[]⟩
abbrev kI:Ar:=⟨.fn,1,8,[.val .nilFunc]⟩
abbrev kH:Ar:=⟨.fn,1,8,[.val .nilFunc]⟩
abbrev kG:Ar:=⟨.fn,1,8,[.val .nilFunc]⟩
abbrev kF:Ar:=⟨.fn,1,8,[.val .nilFunc]⟩
abbrev kE:Ar:=⟨.fn,1,8,[.val .nilFunc]⟩
abbrev kB:Ar:=⟨.other,1,0,[]⟩
abbrev kA:Ar:=⟨.fn,1,8,[.val .nilFunc]⟩
abbrev kz:Ar:=⟨.fn,1,8,[.val .nilFunc]⟩
abbrev ky:Ar:=⟨.fn,1,8,[.val .nilFunc]⟩
abbrev kx:Ar:=⟨.fn,1,8,[.val .nilFunc]⟩
abbrev kv:Ar:=⟨.fn,1,8,[.val .nilFunc]⟩
abbrev ku:Ar:=⟨.slice 236,1,24,[.nil]⟩
abbrev kr:Ar:=⟨.struct [(0,3),(1,3)],2,16,[.int .i64 0,.int .i64 0]⟩
abbrev kq:Ar:=⟨.struct [(0,3),(1,3)],2,16,[.int .i64 0,.int .i64 0]⟩
abbrev ko:Ar:=⟨.ptr 236,1,8,[.nilp]⟩
abbrev km:Ar:=⟨.other,1,8,[.nilp]⟩
def TI(t:Nat):Option Ar:=bif Nat.blt t 239 then(bif Nat.blt t 119 then(bif Nat.blt t 59 then(bif Nat.blt t 29 then(bif Nat.blt t 14 then(bif Nat.blt t 7 then(bif Nat.blt t 3 then(bif Nat.blt t 1 then some qL else(bif Nat.blt t 2 then some qK else some qJ))else(bif Nat.blt t 5 then(bif Nat.blt t 4 then some qz else some qI)else(bif Nat.blt t 6 then some qH else some qG)))else(bif Nat.blt t 10 then(bif Nat.blt t 8 then some qF else(bif Nat.blt t 9 then some qE else some qD))else(bif Nat.blt t 12 then(bif Nat.blt t 11 then some qg else some qf)else(bif Nat.blt t 13 then some qd else some qc))))else(bif Nat.blt t 21 then(bif Nat.blt t 17 then(bif Nat.blt t 15 then some qa else(bif Nat.blt t 16 then some p9 else some p8))else(bif Nat.blt t 19 then(bif Nat.blt t 18 then some p7 else some p6)else(bif Nat.blt t 20 then some p5 else some p4)))else(bif Nat.blt t 25 then(bif Nat.blt t 23 then(bif Nat.blt t 22 then some pZ else some pY)else(bif Nat.blt t 24 then some pX else some pW))else(bif Nat.blt t 27 then(bif Nat.blt t 26 then some pV else some pU)else(bif Nat.blt t 28 then some pT else some pS)))))else(bif Nat.blt t 44 then(bif Nat.blt t 36 then(bif Nat.blt t 32 then(bif Nat.blt t 30 then some pR else(bif Nat.blt t 31 then some pQ else some pP))else(bif Nat.blt t 34 then(bif Nat.blt t 33 then some pO else some pN)else(bif Nat.blt t 35 then some pM else some pL)))else(bif Nat.blt t 40 then(bif Nat.blt t 38 then(bif Nat.blt t 37 then some pK else some pJ)else(bif Nat.blt t 39 then some pI else some pH))else(bif Nat.blt t 42 then(bif Nat.blt t 41 then some pG else some pF)else(bif Nat.blt t 43 then some pE else some pD))))else(bif Nat.blt t 51 then(bif Nat.blt t 47 then(bif Nat.blt t 45 then some pC else(bif Nat.blt t 46 then some pB else some pA))else(bif Nat.blt t 49 then(bif Nat.blt t 48 then some pz else some py)else(bif Nat.blt t 50 then some px else some pw)))else(bif Nat.blt t 55 then(bif Nat.blt t 53 then(bif Nat.blt t 52 then some pt else some pr)else(bif Nat.blt t 54 then some pq else some pp))else(bif Nat.blt t 57 then(bif Nat.blt t 56 then some po else some pn)else(bif Nat.blt t 58 then some pm else some pl))))))else(bif Nat.blt t 89 then(bif Nat.blt t 74 then(bif Nat.blt t 66 then(bif Nat.blt t 62 then(bif Nat.blt t 60 then some pk else(bif Nat.blt t 61 then some pj else some pi))else(bif Nat.blt t 64 then(bif Nat.blt t 63 then some ph else some pg)else(bif Nat.blt t 65 then some pf else some pe)))else(bif Nat.blt t 70 then(bif Nat.blt t 68 then(bif Nat.blt t 67 then some pd else some pc)else(bif Nat.blt t 69 then some pb else some o9))else(bif Nat.blt t 72 then(bif Nat.blt t 71 then some o8 else some o7)else(bif Nat.blt t 73 then some oZ else some oW))))else(bif Nat.blt t 81 then(bif Nat.blt t 77 then(bif Nat.blt t 75 then some oV else(bif Nat.blt t 76 then some oU else some oT))else(bif Nat.blt t 79 then(bif Nat.blt t 78 then some oS else some oQ)else(bif Nat.blt t 80 then some oP else some oO)))else(bif Nat.blt t 85 then(bif Nat.blt t 83 then(bif Nat.blt t 82 then some oM else some oL)else(bif Nat.blt t 84 then some oK else some oJ))else(bif Nat.blt t 87 then(bif Nat.blt t 86 then some oI else some oH)else(bif Nat.blt t 88 then some oG else some oF)))))else(bif Nat.blt t 104 then(bif Nat.blt t 96 then(bif Nat.blt t 92 then(bif Nat.blt t 90 then some oD else(bif Nat.blt t 91 then some oC else some ty91))else(bif Nat.blt t 94 then(bif Nat.blt t 93 then some oB else some oz)else(bif Nat.blt t 95 then some oy else some ov)))else(bif Nat.blt t 100 then(bif Nat.blt t 98 then(bif Nat.blt t 97 then some ou else some oo)else(bif Nat.blt t 99 then some om else some ol))else(bif Nat.blt t 102 then(bif Nat.blt t 101 then some nj else some ni)else(bif Nat.blt t 103 then some nh else some ng))))else(bif Nat.blt t 111 then(bif Nat.blt t 107 then(bif Nat.blt t 105 then some nf else(bif Nat.blt t 106 then some na else some m9))else(bif Nat.blt t 109 then(bif Nat.blt t 108 then some m8 else some m7)else(bif Nat.blt t 110 then some m6 else some m5)))else(bif Nat.blt t 115 then(bif Nat.blt t 113 then(bif Nat.blt t 112 then some m4 else some m3)else(bif Nat.blt t 114 then some mZ else some mY))else(bif Nat.blt t 117 then(bif Nat.blt t 116 then some mX else some mW)else(bif Nat.blt t 118 then some mV else some mU)))))))else(bif Nat.blt t 179 then(bif Nat.blt t 149 then(bif Nat.blt t 134 then(bif Nat.blt t 126 then(bif Nat.blt t 122 then(bif Nat.blt t 120 then some mS else(bif Nat.blt t 121 then some mR else some mQ))else(bif Nat.blt t 124 then(bif Nat.blt t 123 then some mP else some mO)else(bif Nat.blt t 125 then some mN else some mM)))else(bif Nat.blt t 130 then(bif Nat.blt t 128 then(bif Nat.blt t 127 then some mL else some mK)else(bif Nat.blt t 129 then some mJ else some mI))else(bif Nat.blt t 132 then(bif Nat.blt t 131 then some mH else some mG)else(bif Nat.blt t 133 then some mE else some mD))))else(bif Nat.blt t 141 then(bif Nat.blt t 137 then(bif Nat.blt t 135 then some mC else(bif Nat.blt t 136 then some mB else some mA))else(bif Nat.blt t 139 then(bif Nat.blt t 138 then some mz else some my)else(bif Nat.blt t 140 then some mx else some mw)))else(bif Nat.blt t 145 then(bif Nat.blt t 143 then(bif Nat.blt t 142 then some mv else some mr)else(bif Nat.blt t 144 then some mq else some mo))else(bif Nat.blt t 147 then(bif Nat.blt t 146 then some mn else some mm)else(bif Nat.blt t 148 then some ml else some mh)))))else(bif Nat.blt t 164 then(bif Nat.blt t 156 then(bif Nat.blt t 152 then(bif Nat.blt t 150 then some mg else(bif Nat.blt t 151 then some mf else some me))else(bif Nat.blt t 154 then(bif Nat.blt t 153 then some md else some mc)else(bif Nat.blt t 155 then some mb else some ma)))else(bif Nat.blt t 160 then(bif Nat.blt t 158 then(bif Nat.blt t 157 then some l9 else some l8)else(bif Nat.blt t 159 then some l7 else some l0))else(bif Nat.blt t 162 then(bif Nat.blt t 161 then some lZ else some lY)else(bif Nat.blt t 163 then some lX else some lW))))else(bif Nat.blt t 171 then(bif Nat.blt t 167 then(bif Nat.blt t 165 then some lV else(bif Nat.blt t 166 then some lU else some lT))else(bif Nat.blt t 169 then(bif Nat.blt t 168 then some lS else some lR)else(bif Nat.blt t 170 then some lQ else some lP)))else(bif Nat.blt t 175 then(bif Nat.blt t 173 then(bif Nat.blt t 172 then some lO else some lN)else(bif Nat.blt t 174 then some lM else some lL))else(bif Nat.blt t 177 then(bif Nat.blt t 176 then some lK else some lJ)else(bif Nat.blt t 178 then some lI else some lH))))))else(bif Nat.blt t 209 then(bif Nat.blt t 194 then(bif Nat.blt t 186 then(bif Nat.blt t 182 then(bif Nat.blt t 180 then some lG else(bif Nat.blt t 181 then some lF else some lE))else(bif Nat.blt t 184 then(bif Nat.blt t 183 then some lD else some lC)else(bif Nat.blt t 185 then some lB else some lA)))else(bif Nat.blt t 190 then(bif Nat.blt t 188 then(bif Nat.blt t 187 then some lz else some ly)else(bif Nat.blt t 189 then some lx else some lw))else(bif Nat.blt t 192 then(bif Nat.blt t 191 then some lv else some lu)else(bif Nat.blt t 193 then some lr else some lq))))else(bif Nat.blt t 201 then(bif Nat.blt t 197 then(bif Nat.blt t 195 then some lp else(bif Nat.blt t 196 then some ln else some lm))else(bif Nat.blt t 199 then(bif Nat.blt t 198 then some ll else some lk)else(bif Nat.blt t 200 then some lj else some li)))else(bif Nat.blt t 205 then(bif Nat.blt t 203 then(bif Nat.blt t 202 then some lh else some lf)else(bif Nat.blt t 204 then some lc else some la))else(bif Nat.blt t 207 then(bif Nat.blt t 206 then some k9 else some k8)else(bif Nat.blt t 208 then some k7 else some kZ)))))else(bif Nat.blt t 224 then(bif Nat.blt t 216 then(bif Nat.blt t 212 then(bif Nat.blt t 210 then some kY else(bif Nat.blt t 211 then some kX else some kV))else(bif Nat.blt t 214 then(bif Nat.blt t 213 then some kU else some kT)else(bif Nat.blt t 215 then some kR else some kQ)))else(bif Nat.blt t 220 then(bif Nat.blt t 218 then(bif Nat.blt t 217 then some kP else some kO)else(bif Nat.blt t 219 then some kN else some kM))else(bif Nat.blt t 222 then(bif Nat.blt t 221 then some kL else some kK)else(bif Nat.blt t 223 then some kJ else some kI))))else(bif Nat.blt t 231 then(bif Nat.blt t 227 then(bif Nat.blt t 225 then some kH else(bif Nat.blt t 226 then some kG else some kF))else(bif Nat.blt t 229 then(bif Nat.blt t 228 then some kE else some kB)else(bif Nat.blt t 230 then some kA else some kz)))else(bif Nat.blt t 235 then(bif Nat.blt t 233 then(bif Nat.blt t 232 then some ky else some kx)else(bif Nat.blt t 234 then some kv else some ku))else(bif Nat.blt t 237 then(bif Nat.blt t 236 then some kr else some kq)else(bif Nat.blt t 238 then some ko else some km))))))))else none
theorem gT:(List.range 239).map TI=(List.range 239).map (WV Go.Proofs.Tryz.prog):=by kernel_rfl
theorem Ah:Cn Go.Proofs.Tryz.prog TI:=by
 intro t i h
 by_cases c:t<239
 . have h1:((List.range 239).map TI)[t]?=((List.range 239).map (WV Go.Proofs.Tryz.prog))[t]?:=by rw[gT]
   rw[List.getElem?_map,List.getElem?_map,List.getElem?_range c]at h1;simp only[Option.map_some,Option.some.injEq]at h1;rw[<-h1,h]
 . have h2:Nat.blt t 239=false:=by
    rw[Bool.eq_false_iff];intro hc;exact c (Nat.blt_eq.mp hc)
   unfold TI at h;rw[h2]at h
   cases h
theorem mix:Go.Proofs.Tryz.prog.follows .mixedOrders=true:=by kernel_rfl
structure Tac where
  op:Int
  d:Int
  a:Int
  b:Int
  k:Int
  base:Int
  size:Int
  n:Int
  deriving DecidableEq,Repr
structure Block where
  ins:List Tac
  fin:Int
  v:Int
  to:Int
  els:Int
  deriving DecidableEq,Repr
structure BFunc where
  regs:Int
  blocks:List Block
  deriving DecidableEq,Repr
structure Blocks where
  words:Int
  funcs:List BFunc
  deriving DecidableEq,Repr
structure Cert where
  same:List (List Bool)
  deriving DecidableEq,Repr
def Tac.cells(t:Tac):List AV:=[.int .i64 t.op,.int .i64 t.d,.int .i64 t.a,.int .i64 t.b,.int .i64 t.k,.int .i64 t.base,.int .i64 t.size,.int .u32 t.n]
def DY(l:List Tac):AV:=.lst false (l.map Tac.cells)
def Block.cells(b:Block):List AV:=[DY b.ins,.int .i64 b.fin,.int .i64 b.v,.int .i64 b.to,.int .i64 b.els]
def BZ(l:List Block):AV:=.lst false (l.map Block.cells)
def BFunc.cells(f:BFunc):List AV:=[.int .i64 f.regs,BZ f.blocks]
def Gl(l:List BFunc):AV:=.lst false (l.map BFunc.cells)
def Blocks.cells(b:Blocks):List AV:=[.int .i64 b.words,Gl b.funcs]
def Ch(l:List Bool):AV:=.lst false (l.map fun b=>[.bool b])
def AM(l:List Int):AV:=.lst false (l.map fun b=>[.int .i64 b])
def MU(l:List (List Bool)):AV:=.lst false (l.map fun r=>[Ch r])
def AU(l:List (List Int)):AV:=.lst false (l.map fun r=>[AM r])
def Cert.cells(c:Cert):List AV:=[MU c.same]
theorem AC{α:Type}{l:List α}{f:α->List AV}{k:Nat}{x:α}(h:l[k]?=some x):(l.map f)[((k:Nat):Int).toNat]?=some (f x):=by
 rw[Int.toNat_natCast,List.getElem?_map,h];rfl
theorem Ae{α:Type}{l:List α}{k:Nat}(h:k<l.length): ∃x,l[k]?=some x:=⟨l[k],List.getElem?_eq_getElem h⟩
theorem Bc{α:Type}{l:List α}{k:Nat}{x:α}(h:l[k]?=some x):l.take (k+1)=l.take k++[x]:=by
 rw[List.take_add_one,h];rfl
def eL(l:List Tac):Prop:=l.length<=maxLen
def Block.fits(x:Block):Prop:=x.ins.length<=maxLen
def NP(l:List Block):Prop:=l.length<=maxLen/\∀x∈l,x.fits
def BFunc.fits(f:BFunc):Prop:=NP f.blocks
def PV(l:List BFunc):Prop:=l.length<=maxLen/\∀f∈l,f.fits
def Blocks.fits(b:Blocks):Prop:=PV b.funcs
theorem M0{α:Type}{l:List α}{f:α->List AV}{H:Ax}{ι:Ba}{ex:Bool}{v:Value}(h:Rel H ι (.lst ex (l.map f)) v):
 l.length<=maxLen/\∀x∈l,∀(j:Nat) (y:AV),(f x)[j]?=some y->∃u,Rel H AQ y u:=by
 refine⟨by have:=d5 h;simpa using this,fun x hx j y hy=>?_⟩;obtain⟨i,hi⟩:=List.mem_iff_getElem?.1 hx;rcases h.lst_inv with⟨h0,_⟩ |⟨_,b,off,cap,sz,c,vals,_,_,_,_,hr,_⟩
 . rw[List.map_eq_nil_iff]at h0;subst h0;simp at hi
 . exact⟨_,hr i (f x) j y (by rw[List.getElem?_map,hi];rfl) hy⟩
theorem dp{l:List Tac}{H:Ax}{ι:Ba}{v:Value}(h:Rel H ι (DY l) v):eL l:=(M0 h).1
theorem M1{l:List Block}{H:Ax}{ι:Ba}{v:Value}(h:Rel H ι (BZ l) v):NP l:=by
 obtain⟨h1,h2⟩:=M0 h;exact⟨h1,fun x hx=>by obtain⟨u,hu⟩:=h2 x hx 0 _ rfl;exact dp hu⟩
theorem Sg{cs:List AV}{H:Ax}{ι:Ba}{v:Value}(h:Rel H ι (.agg cs) v){j:Nat}{x:AV}(hj:cs[j]?=some x): ∃u,Rel H ι x u:=by
 obtain⟨us,_,hl,hr⟩:=h.agg_inv;have hlt:j<us.size:=by rw[<-hl];exact(List.getElem?_eq_some_iff.1 hj).1
 obtain⟨u,hu⟩:=Br hlt;exact⟨u,hr j x u hj hu⟩
theorem O5{f:BFunc}{H:Ax}{ι:Ba}{v:Value}(h:Rel H ι (.agg f.cells) v):f.fits:=by
 obtain⟨u,hu⟩:=Sg h (j:=1) rfl;exact M1 hu
theorem Xc{l:List BFunc}{H:Ax}{ι:Ba}{v:Value}(h:Rel H ι (Gl l) v):PV l:=by
 obtain⟨h1,h2⟩:=M0 h;exact⟨h1,fun x hx=>by obtain⟨u,hu⟩:=h2 x hx 1 _ rfl;exact M1 hu⟩
theorem Sf{b:Blocks}{H:Ax}{ι:Ba}{v:Value}(h:Rel H ι (.agg b.cells) v):b.fits:=by
 obtain⟨u,hu⟩:=Sg h (j:=1) rfl;exact Xc hu
theorem Kw{P:Program}{s:Ai}{Q:Exit->Ai->Prop}{c:Code}(t:Nat){x:AV}{φ:Prop}(ht:s.env t=some x)(hf: ∀H ι v,Rel H ι x v->φ)(h:φ->AGo P c s Q):AGo P c s Q:=
 cw (fun H ι a w hs=>by obtain⟨v,_,hv⟩:=hs.env t x ht;exact hf H ι v hv) h
theorem GR{α:Type}{β:Type}{l:List α}{f:α->β}{k:Nat}(h:decide ((k:Int)<(((l.map f).length:Nat):Int))=true):k<l.length:=by simpa using h
theorem GS{α:Type}{β:Type}{l:List α}{f:α->β}{k:Nat}(h:decide ((k:Int)<(((l.map f).length:Nat):Int))=false):l.length<=k:=by simpa using h
theorem Tac.eqCells(x y:Tac):Sv.eqCells x.cells y.cells=some (decide (x=y)):=by
 have h:Sv.eqCells x.cells y.cells=some (x.op==y.op&&(x.d==y.d&&(x.a==y.a&&(x.b==y.b&&(x.k==y.k&&(x.base==y.base&&(x.size==y.size&&(x.n==y.n&&true)))))))):=rfl;rw[h];congr 1;obtain⟨a1,a2,a3,a4,a5,a6,a7,a8⟩:=x;obtain⟨b1,b2,b3,b4,b5,b6,b7,b8⟩:=y;rw[Bool.eq_iff_iff];simp[Tac.mk.injEq]
section
variable {P : Program} {T : Nat -> Option Ar} {o : Oper} {e : As} {h : Ab}
theorem FO{f:Fn}{first captured:Array Operand}{xs cs:List AV}(ho:o.op= .makeFunc f first captured)(hx:AR e first.toList=some xs)(hc:AR e captured.toList=some cs):QLoc P o e h [] (.fn f xs cs):=by
 intro H ι a w s hs g1 g2;have hx':AR s.env first.toList=some xs:=by
  rw[EY (e:=e) (fun x hx=>g1 x (by rw[ho];simp[Op.operands];exact .inl (by simpa using hx)))];exact hx
 have hc':AR s.env captured.toList=some cs:=by
  rw[EY (e:=e) (fun x hx=>g1 x (by rw[ho];simp[Op.operands];exact .inr (by simpa using hx)))];exact hc
 have h1:=B3 hs hx';have h2:=B3 hs hc';refine⟨.func f (first.map a.eval) (captured.map a.eval),.fn _ _ _ _ _ _ h1.1 h2.1 h1.2 h2.2,?_⟩;simp only[execOp,ho,Instr.makeFunc,Sem.run_bind,Sem.run_pure,Result.andThen_ok]
theorem Ci{H:Ax}{ι:Ba}{xs ys:List AV}{us vs:Array Value}(h1:RelAll H ι xs us)(h2:RelAll H ι ys vs):RelAll H ι (xs++ys) (us++vs):=by
 refine⟨by simp[h1.1,h2.1],fun j x v g1 g2=>?_⟩
 by_cases hj:j<xs.length
 . rw[List.getElem?_append_left hj]at g1;rw[Array.getElem?_append_left (by rw[<-h1.1];exact hj)]at g2;exact h1.2 j x v g1 g2
 . rw[List.getElem?_append_right (by omega)]at g1;rw[Array.getElem?_append_right (by rw[<-h1.1];omega),<-h1.1]at g2;exact h2.2 _ x v g1 g2
theorem L5{f:FuncId}{fn:Func}{x:Operand}{args:Array Operand}{tys:Array TypeId}{fs xs cs:List AV}{r:AV}{hc hw:Ab}(L:List Nat)(W:List (Nat×AObj))(ho:o.op= .call {callee:=.value x,args:=args,argTypes:=tys})(hfn:Ak e x=some (.fn (.func f) fs cs))(hf:P.funcs[f]?=some fn)(hn:(fn.name== "runtime.NumGoroutine")=false)(hb:fn.body.isSome=true)
 (hx:AR e args.toList=some xs) (hxa:(fs++xs++cs).all (AV.avoid (mem L))=true) (hL:AllL L fun b=>∃q,h b=some q/\q.avoid (mem L)=true) (hW:W.all (fun p=>mem L p.1)=true) (hres':hres h L=hc)
 (hk:AllL L fun b=>∃q,hw b=some q/\hputs h W b=some q/\q.avoid (mem L)=true) (hra:r.avoid (mem L)=true)
 (hcall:ACall P f (fs++xs++cs) hc (fun r' h'=>r'=r/\HSub hw h')):OLoc P o e h L W (some r):=by
 intro H ι a w s Q hs g1 g2;have hx':AR s.env args.toList=some xs:=by
  exact YI
 have hfn':Ak s.env x=some (.fn (.func f) fs cs):=by rw[g1 x HC,hfn]
 have hvf:=Am hs hfn';obtain⟨us,vs,hve,k1,k2,k3,k4⟩:=hvf.fn_inv;have hraa:=Ci (Ci ⟨k1,k3⟩ (B3 hs hx')) ⟨k2,k4⟩;have hra':RelAll H (lcut ι (mem L)) (fs++xs++cs) (us++args.map a.eval++vs):=⟨hraa.1,fun j x v h1 h2=>DV (hraa.2 j x v h1 h2) (Ev hxa h1)⟩;have hLs: ∀b∈L,∃q,s.h b=some q/\q.avoid (mem L)=true:=fun b hb=>by rw[g2 b hb];exact hL.get b hb
 have hres2:hres s.h L=hc:=by
  rw[<-hres'];funext b;unfold hres
  cases e:mem L b with
  | true=>simp only[cond_true];exact g2 b (mem_iff.1 e)
  | false=>rfl
 have hrc:HeapRel H (lcut ι (mem L)) (hres s.h L) w:=by
  exact jX
 have hcalls:=hcall H (lcut ι (mem L)) w _ hra' (hres2▸hrc);have hexec:(execOp a.eval o).run P w= .ok (.enter f (us++args.map a.eval++vs)) w:=by
  simp only[execOp,ho,resolve,hve,Deferred.ofValue,invoke,Sem.run_bind,Sem.run_pure,Result.andThen_ok,BO hf hn hb]
 exact jV
theorem E2(hT:Cn P T){t:TypeId}{x y:Operand}{b n len m:Nat}{p:Bool}{sz:Nat}{es:List (List AV)}{i j:Ar}{u:Nat}{k:IntKind}{z:Int}(ho:o.op= .slice t x none (some y) none)(hx:Ak e x=some (.ref b n 0 len))(hy:Ak e y=some (.int k z))(ht:T t=some i)(hk:i.k= .slice u)(hj:T u=some j)
 (hb:h b=some (.row p sz es)) (hn:n=es.length) (hz:z=(m:Int)) (hm:m<=len):QLoc P o e h [b] (.ref b n 0 m):=by
 intro H ι a w s hs g1 g2;have hx':Ak s.env x=some (.ref b n 0 len):=by rw[g1 x (by rw[ho];simp[Op.operands]),hx]
 have hy':Ak s.env y=some (.int k z):=by rw[g1 y (by rw[ho];simp[Op.operands]),hy]
 have hb':s.h b=some (.row p sz es):=by rw[g2 b (by simp),hb]
 subst hz;obtain⟨info,d,e1,e2,e3,e4,e5,e6⟩:=Aj (hT _ _ ht);obtain⟨info',d',e1',e2',e3',e4',e5',e6'⟩:=Aj (hT _ _ hj);have hd:=Bn (P:=P) (d:=d) (e3▸hk);subst hd;have hvx:=Am hs hx';have hvy:=(Am hs hy').int_inv;generalize hva:a.eval x=va at hvx;obtain⟨r,hl,⟨r1,r2,r3,r4,r5,r6⟩,r7⟩:=hs.heap.obj b _ hb' rfl;have hrun: ∀(ad:Option Addr) (cap:Nat),m<=cap->va= .slice ad len cap->(execOp a.eval o).run P w= .ok (.value (.slice (if cap=0 then ad else ad.map (·.add (0*j.size))) (m-0) (cap-0))) w:=fun ad cap hcap hv=>by
  simp only[execOp,ho,hva,hv,hvy,Instr.sliceAt,Instr.slice,Option.map_none,Option.map_some,Sem.run_bind,Al e2,Result.andThen_ok,Fq e1',e4',Sem.run_pure];simp[Instr.sliceBounds,Instr.sliceBound,asIntOf,hcap]
 by_cases hsol:r.csz=0
 . obtain⟨hl0,ad,rfl,hsp⟩:=hvx.ref_dry hl (by omega) hsol (by omega);subst hl0;obtain rfl:m=0:=by omega
   refine⟨_,?_,hrun ad 0 (Nat.le_refl _) rfl⟩;simpa using hvx
 . obtain⟨hlen,cap,rfl,hlc,hcap,hmax⟩:=hvx.ref_live hl (by omega) hsol;refine⟨_,?_,hrun _ cap (by omega) rfl⟩;have:=Rel.refL (H:=H) ι b n 0 m cap r hl (by omega) (by omega) (by omega) hcap hmax;have hadd:(if cap=0 then some (⟨r.rb,0*r.sz,none⟩:Addr)else(some (⟨r.rb,0*r.sz,none⟩:Addr)).map (·.add (0*j.size)))=some ⟨r.rb,0*r.sz,none⟩:=by
    split
    . rfl
    . simp[Addr.add]
   rw[hadd];simpa using this
theorem UC(hT:Cn P T){t t':TypeId}{x y:Operand}{i i' j:Ar}{u u':Nat}{b n len:Nat}{p:Bool}{sz:Nat}{es:List (List AV)}{cs2:List AV}{q:AV}{R:List Nat}
 (ho:o.op= .call {callee:=.builtin .append,args:= #[x,y],argTypes:= #[t,t']}) (hx:Ak e x=some (.ref b n 0 len)) (hy:Ak e y=some q) (hi:T t=some i) (hk:i.k= .slice u) (hj:T u=some j) (hi':T t'=some i') (hk':i'.k= .slice u')
 (hb:h b=some (.row p sz es)) (hn:n=es.length) (hlt:len<n) (hsz:sz=j.size) (hp:0<j.size)
 (hsrc:SrcOf h q R [cs2]) (hu2:cs2.length=sz) (hpure:p=true->cs2.all AV.isPure1=true):
 OLoc P o e h (b::R) [(b,.row p sz (es.set len cs2))] (some (.ref b n 0 (len+1))):=by
 intro H ι a w s Q hs g1 g2;have hx':Ak s.env x=some (.ref b n 0 len):=by rw[g1 x HC,hx]
 have hy':Ak s.env y=some q:=by rw[g1 y HC,hy]
 have hb':s.h b=some (.row p sz es):=by rw[g2 b (by simp),hb]
 have hsrc':=hsrc.agree (h':=s.h) (fun c hc=>g2 c (by simp[hc]));obtain⟨info,d,e1,e2,e3,e4,e5,e6⟩:=Aj (hT _ _ hi);obtain⟨infou,du,f1,f2,f3,f4,f5,f6⟩:=Aj (hT _ _ hj);obtain⟨info',d',e1',e2',e3',e4',e5',e6'⟩:=Aj (hT _ _ hi');have hd:=Bn (P:=P) (d:=d) (e3▸hk);subst hd;have hd':=Bn (P:=P) (d:=d') (e3'▸hk');subst hd';subst hsz;subst hn;obtain⟨r,hl,⟨r1,r2,r3,r4,r5,r6⟩,r7⟩:=hs.heap.obj b _ hb' rfl;have hvx:=Am hs hx';have hvy:=Am hs hy';generalize hva:a.eval x=va at hvx;generalize hvb:a.eval y=vb at hvy;have hexec: ∀(v:Value) (w':World),(Builtin.append_ #[t,t'] o.type #[va,vb]).run P w= .ok v w'->(execOp a.eval o).run P w= .ok (.value v) w':=fun v w' hrun=>by
  exact Wy
 obtain⟨news,hsrcw,hnews⟩:=KF hs.heap hsrc' hvy e2' hp (by intro cs h;simp at h;subst h;exact hu2) w rfl;rw[<-f4]at hsrcw;have hnl:news.length=j.size:=by rw[hsrcw.newsLen,f4];simp
 have hsol:r.csz≠0:=fun h0=>by
  have:0<es.length*j.size:=Nat.mul_pos (by omega) hp;omega
 obtain⟨hlen,cap,hvv,hlc,hcap,hmax⟩:=hvx.ref_live hl (by omega) hsol;obtain⟨c,TT,w1,w2,w3⟩:=r6 hsol;simp only[Nat.zero_mul,Nat.zero_add]at hcap hvv;have hcs:c.size=cap*j.size:=by rw[w2,<-hcap,r1]
 have hmul:(len+1)*j.size<=es.length*j.size:=Nat.mul_le_mul_right _ (by omega);have hmul':(len+1)*j.size=len*j.size+j.size:=by rw[Nat.add_mul,Nat.one_mul]
 have hroom:len+1<=cap:=by
  refine Nat.le_of_mul_le_mul_right (c:=j.size) ?_ hp;rw[<-hcs,w2];omega
 have hfit:len*infou.size+news.length<=c.size:=by rw[hnl,f4,w2];omega
 have hrun:=D0 (P:=P) (w:=w) t t' o.type u infou e2 f1 r.rb len cap c TT w1 vb 1 news hsrcw hroom hfit;rw[f4]at hrun hfit;generalize hC:(c.toList.take (len*j.size)++news++c.toList.drop (len*j.size+news.length)).toArray=C at*;have hCs:C.size=c.size:=by rw[<-hC];simp;omega
 have hget: ∀k:Nat,C[k]?=if k<len*j.size then c[k]? else if k<len*j.size+j.size then news[k-len*j.size]? else c[k]?:=fun k=>by
  rw[<-hC];simp only[List.getElem?_toArray];have hm:(c.toList.take (len*j.size)).length=len*j.size:=by simp;omega
  by_cases h1:k<len*j.size
  . rw[if_pos h1,List.getElem?_append_left (by rw[List.length_append,hm];omega),List.getElem?_append_left (by rw[hm];exact h1),List.getElem?_take_of_lt h1,Array.getElem?_toList]
  . rw[if_neg h1]
    by_cases h2:k<len*j.size+j.size
    . rw[if_pos h2,List.getElem?_append_left (by rw[List.length_append,hm,hnl];exact h2),List.getElem?_append_right (by rw[hm];omega),hm]
    . rw[if_neg h2,List.getElem?_append_right (by rw[List.length_append,hm,hnl];omega),List.length_append,hm,hnl,List.getElem?_drop,Array.getElem?_toList];congr 1;omega
 have hll:LLe ι (Dp ι b r):=LLe.put fun r' hr'=>by rw[hl]at hr';cases hr';exact .inl rfl
 have hlens: ∀(i:Nat) (cs:List AV),(es.set len cs2)[i]?=some cs->cs.length=j.size:=fun i cs hc=>by
  by_cases hi:len=i
  . subst hi;rw[List.getElem?_set_self hlt]at hc;cases hc;exact hu2
  . rw[List.getElem?_set_ne hi]at hc;exact r5 i cs hc
 have hrow:rowCells H (bif p then AQ else Dp ι b r) j.size (es.set len cs2) C:=by
  refine⟨hlens,fun i cs k y hc hk=>?_⟩;have hkk:k<j.size:=by
   rw[<-hlens i cs hc];exact(List.getElem?_eq_some_iff.1 hk).1
  have hi:i<es.length:=by
   have:=(List.getElem?_eq_some_iff.1 hc).1;simpa using this
  by_cases hil:len=i
  . subst hil;rw[List.getElem?_set_self hlt]at hc;cases hc;obtain⟨v,k1,k2,k3⟩:=hnews 0 cs2 k y rfl hk;rw[Nat.zero_mul,Nat.zero_add]at k1;refine⟨v,by rw[hget,if_neg (by omega),if_pos (by omega),Nat.add_sub_cancel_left];exact k1,?_,k3⟩
    cases p with
    | false=>exact k2.mono (KLe.refl _) hll
    | true=>exact CU (List.all_eq_true.1 (hpure rfl) y (List.mem_of_getElem? hk)) k2
  . rw[List.getElem?_set_ne hil]at hc;obtain⟨v,k1,k2,k3⟩:=w3.2 i cs k y hc hk;refine⟨v,?_,?_,k3⟩
    . rw[hget]
      by_cases h1:i<len
      . have:(i+1)*j.size<=len*j.size:=Nat.mul_le_mul_right _ (by omega);rw[Nat.add_mul,Nat.one_mul]at this;rw[if_pos (by omega)];exact k1
      . have:(len+1)*j.size<=i*j.size:=Nat.mul_le_mul_right _ (by omega);rw[if_neg (by omega),if_neg (by omega)];exact k1
    . cases p with
      | false=>exact k2.mono (KLe.refl _) hll
      | true=>exact k2
 obtain⟨u1,u2⟩:=hs.heap.upd (w':=w.setRow r.rb C) (o0:=.row p j.size es) (o':=.row p j.size (es.set len cs2)) (r':=r) hb' rfl
  (.inr ⟨r,hl,rfl,.inl rfl⟩) (fun _=>.inr ⟨r,hl,rfl,hsol,rfl⟩)
  (fun rb hlt' hne=>setRow_other w r.rb rb _ (hne r hl rfl hsol)) (by simp) (KH _ _ _) (Jj _ _ _)
  ⟨r1,r2,by simp[r3],by simpa using r4,hrow.1,fun _=>⟨C,TT,w1.setRow hCs,hCs.trans w2,hrow⟩⟩
 have hex:=hexec _ _ (hvv▸hrun);unfold Oper.wp;rw[hex];refine⟨_,H,_,rfl,(fun x ex=>?_),u1,u2⟩
 cases ex
 have:=Rel.refL (H:=H) (Dp ι b r) b es.length 0 (len+1) cap _ (Bb _ _ _) r3 (by omega) hroom (by rw[Nat.zero_add];exact hcap) hmax;simpa using this
def CN(es:List (List AV))(len:Nat)(cs:List AV):List (List AV):=if len<es.length then es.set len cs else es++[cs]
theorem Jp{es:List (List AV)}{len:Nat}{cs:List AV}(h:len<=es.length):(CN es len cs).take (len+1)=es.take len++[cs]:=by
 unfold CN;split
 . rename_i hlt;rw[Bc (List.getElem?_set_self hlt),List.take_set_of_le (Nat.le_refl _)]
 . have:len=es.length:=by omega
   subst this;rw[List.take_of_length_le (by simp),List.take_of_length_le (Nat.le_refl _)]
theorem KS{es:List (List AV)}{len:Nat}{cs:List AV}(h:len<=es.length):len+1<=(CN es len cs).length:=by
 unfold CN;split
 . simp;omega
 . simp;omega
theorem KU(hT:Cn P T){t t':TypeId}{x y:Operand}{i i' j:Ar}{u u':Nat}{b n len:Nat}{p:Bool}{sz:Nat}{es:List (List AV)}{cs2:List AV}{q:AV}{R:List Nat}
 (ho:o.op= .call {callee:=.builtin .append,args:= #[x,y],argTypes:= #[t,t']}) (hx:Ak e x=some (.ref b n 0 len)) (hy:Ak e y=some q) (hi:T t=some i) (hk:i.k= .slice u) (hj:T u=some j) (hi':T t'=some i') (hk':i'.k= .slice u')
 (hb:h b=some (.row p sz es)) (hn:n=es.length) (hlt:len<=n) (hsz:sz=j.size) (hz:j.zero.length=j.size) (hp:0<j.size)
 (hsrc:SrcOf h q R [cs2]) (hu2:cs2.length=sz) (hpure:p=true->cs2.all AV.isPure1=true) (hby:(es.length+1)*j.bytes<=140737488355328) (hml:es.length+1<=maxLen):
 OLoc P o e h (b::R) [(b,.row p sz (CN es len cs2))] (some (.ref b (CN es len cs2).length 0 (len+1))):=by
 by_cases h1:len<es.length
 . have e1:CN es len cs2=es.set len cs2:=by simp[CN,h1]
   rw[e1];have:=UC hT ho hx hy hi hk hj hi' hk' hb hn (by omega) hsz hp hsrc hu2 hpure;rw[List.length_set,<-hn];exact this
 . have e1:CN es len cs2=es++[cs2]:=by simp[CN,h1]
   have hl:len=n:=by omega
   subst hl;rw[e1];have:=o_append hT ho hx hy hi hk hj hi' hk' hb hn hsz hz hp hsrc (by intro cs h;simp at h;subst h;exact hu2) (fun hp cs h=>by simp at h;subst h;exact hpure hp) (m:=1) rfl hby hml;rw[show(es++[cs2]).length=len+1 by simp[hn]];exact this
end
theorem Ay{h:Ab}{b x:Nat}{o:AObj}{r:Option AObj}(hb:Nat.beq x b=false)(hr:h x=r):hput h b o x=r:=by simp only[hput,hb,cond_false,hr]
section
variable {P : Program} {T : Nat -> Option Ar} {o : Oper} {e : As} {h : Ab}
end
def D3(h:Ab)(κ:Nat->Bool):Ab:=fun b=>bif κ b then h b else some .free
def J7(ι ι':Ba)(κ:Nat->Bool):Ba:=fun b=>bif κ b then ι' b else ι b
theorem Yl{H:Ax}{ι:Ba}{h:Ab}{w:World}{κ:Nat->Bool}{hn:Ab}{H':Ax}{ι':Ba}{h':Ab}{w':World}(hr:HeapRel H ι h w)
 (hL: ∀b,κ b=true->∃o,h b=some o/\o.avoid κ=true) (hW: ∀b,κ b=false->hn b=h b)
 (hk: ∀b,κ b=true->∃o,h' b=some o/\hn b=some o/\o.avoid κ=true)
 (hr':HeapRel H' ι' h' w') (hst:Step H (lcut ι κ) (D3 h κ) w H' ι' h' w'):
 HeapRel H' (J7 ι ι' κ) (hn) w'/\Step H ι h w H' (J7 ι ι' κ) (hn) w':=by
 have mT: ∀b,κ b=true->J7 ι ι' κ b=ι' b:=fun b hb=>by simp only[J7,hb,cond_true]
 have mF: ∀b,¬κ b=true->J7 ι ι' κ b=ι b:=fun b hb=>by
  have:κ b=false:=by cases e:κ b with | false=>rfl | true=>exact absurd e hb
  simp only[J7,this,cond_false]
 have cT: ∀b,κ b=true->lcut ι κ b=ι b:=fun b hb=>CP hb
 have rT: ∀b,κ b=true->D3 h κ b=h b:=fun b hb=>by simp only[D3,hb,cond_true]
 have rF: ∀b,¬κ b=true->D3 h κ b=some .free:=fun b hb=>by
  have:κ b=false:=by cases e:κ b with | false=>rfl | true=>exact absurd e hb
  simp only[D3,this,cond_false]
 have wF: ∀b,¬κ b=true->hn b=h b:=fun b hb=>hW b (by cases e:κ b with | false=>rfl | true=>exact absurd e hb)
 have own: ∀rb,Dg (D3 h κ) (lcut ι κ) rb->Dg h ι rb:=by
  rintro rb ⟨b,o,r,h1,h2,h3,h4,h5⟩
  by_cases hb:κ b=true
  . exact⟨b,o,r,by rw[<-rT b hb];exact h1,h2,Bi h3,h4,h5⟩
  . rw[rF b hb]at h1;cases h1;cases h2
 -- rows that the call didn't see are none of its
 have apart: ∀b o r,¬κ b=true->h b=some o->o.alive=true->ι b=some r->r.solid->¬Dg (D3 h κ) (lcut ι κ) r.rb:=by
  rintro b o r hb h1 h2 h3 h4 ⟨b',o',r',g1,g2,g3,g4,g5⟩
  by_cases hb':κ b'=true
  . exact hr.inj b b' o o' r r' h1 h2 (by rw[<-rT b' hb'];exact g1) g2 h3 (Bi g3) h4 g4 (fun e=>hb (e▸hb')) g5.symm
  . rw[rF b' hb']at g1;cases g1;cases g2
 have lle:LLe ι (J7 ι ι' κ):=fun b r e=>by
  by_cases hb:κ b=true
  . rw[mT b hb];exact hst.lle b r (by rw[cT b hb];exact e)
  . rw[mF b hb];exact⟨r,e,.inl rfl⟩
 have lle':LLe (lcut ι' κ) (J7 ι ι' κ):=fun b r e=>by
  by_cases hb:κ b=true
  . rw[mT b hb];exact⟨r,Bi e,.inl rfl⟩
  . have:κ b=false:=by cases e:κ b with | false=>rfl | true=>exact absurd e hb
    simp only[lcut,this,cond_false]at e;cases e
 have blk: ∀b o r,¬κ b=true->h b=some o->o.alive=true->ι b=some r->r.solid->w'.heap[r.rb]?=w.heap[r.rb]?:=fun b o r hb h1 h2 h3 h4=>
  hst.keep r.rb (hr.lt ⟨b,o,r,h1,h2,h3,h4,rfl⟩) (apart b o r hb h1 h2 h3 h4)
 have noK: ∀b o r,¬κ b=true->h b=some o->o.alive=true->ι b=some r->r.solid->H r.rb=none->H' r.rb=none:=fun b o r hb h1 h2 h3 h4 h5=>by
  exact jy
 -- a row of the call's, afterwards: not one of those that it didn't see
 have apart': ∀b b' o r r',¬κ b=true->κ b'=true->h b=some o->o.alive=true->ι b=some r->r.solid->ι' b'=some r'->r'.solid->r.rb≠r'.rb:=fun b b' o r r' hb hb' h1 h2 h3 h4 g1 g2 e=>by
  exact jQ
 refine⟨⟨hr'.know,fun b hb=>?_,fun b o h1 h2=>?_,fun b b' o o' r r' h1 h2 h3 h4 h5 h6 s1 s2 hne=>?_,hr'.glob⟩,⟨hst.size,hst.os,hst.out,fun rb hlt hno=>hst.keep rb hlt (fun h=>hno (own rb h)),hst.kle,fun b hb=>?_,lle,fun b e=>?_,fun b r' e es=>?_,fun b e=>?_⟩⟩
 . by_cases hbL:κ b=true
   . obtain⟨o,k1,k2,_⟩:=hk b hbL;rw[k2]at hb;cases hb;rw[mT b hbL];exact hr'.free b k1
   . rw[wF b hbL]at hb;rw[mF b hbL];exact hr.free b hb
 . by_cases hbL:κ b=true
   . obtain⟨o',k1,k2,k3⟩:=hk b hbL;exact jj
   . rw[wF b hbL]at h1;exact zt92
 . by_cases hb:κ b=true<;>by_cases hb':κ b'=true
   . obtain⟨q,k1,k2,_⟩:=hk b hb;exact jq
   . rw[wF b' hb']at h3;rw[mF b' hb']at h6;rw[mT b hb]at h5;exact fun e=>apart' b' b o' r' r hb' hb h3 h4 h6 s2 h5 s1 e.symm
   . rw[wF b hb]at h1;rw[mF b hb]at h5;rw[mT b' hb']at h6;exact apart' b b' o r r' hb hb' h1 h2 h5 s1 h6 s2
   . rw[wF b hb]at h1;rw[mF b hb]at h5;rw[wF b' hb']at h3;rw[mF b' hb']at h6;exact hr.inj b b' o o' r r' h1 h2 h3 h4 h5 h6 s1 s2 hne
 . rcases hst.knew b hb with g | g | g
   . exact .inl g
   . exact .inr (.inl g)
   . exact .inr (.inr (own b g))
 . by_cases hb:κ b=true
   . obtain⟨o,k1,_⟩:=hL b hb;rw[k1]at e;cases e
   . exact mF b hb
 . by_cases hb:κ b=true
   . rw[mT b hb]at e;exact zt100
   . rw[mF b hb]at e;exact .inl e
 . by_cases hb:κ b=true
   . obtain⟨o,k1,_⟩:=hL b hb;rw[k1]at e;cases e
   . rw[wF b hb];exact e
def EDropK(k:Nat->Bool)(e' e:As):Prop:=∀t x,e' t=some x->e t=some x/\x.avoid k=true
def HDropK(k:Nat->Bool)(h' h:Ab):Prop:=∀b o,h' b=some o->(h b=some o/\(o.alive=true->k b=true/\o.avoid k=true))\/(o= .free/\k b=false)
theorem EDropK.new(k:Nat->Bool)(e:As):EDropK k A8 e:=fun _ _ h=>by cases h
theorem EDropK.put{k:Nat->Bool}{e' e:As}{t:Nat}{v:AV}(h:EDropK k e' e)(hv:e t=some v)(ha:v.avoid k=true):EDropK k (Aa e' t v) e:=fun u x hx=>by
 by_cases hu:u=t
 . subst hu;rw[Cm]at hx;cases hx;exact⟨hv,ha⟩
 . rw[DU _ _ hu]at hx;exact h u x hx
theorem HDropK.none(k:Nat->Bool)(h:Ab):HDropK k hNone h:=fun _ _ h=>by cases h
theorem HDropK.put{k:Nat->Bool}{h' h:Ab}{b:Nat}{o:AObj}(hh:HDropK k h' h)(ho:h b=some o)(hb:k b=true)(ha:o.avoid k=true):HDropK k (hput h' b o) h:=fun c x hx=>by
 by_cases hc:c=b
 . subst hc;rw[Ap]at hx;cases hx;exact .inl ⟨ho,fun _=>⟨hb,ha⟩⟩
 . rw[AF _ _ hc]at hx;exact hh c x hx
structure DropK(k:Nat->Bool)(s'' s':Ai):Prop where
  n:s''.n=s'.n
  e:EDropK k s''.env s'.env
  h:HDropK k s''.h s'.h
theorem DropK.mk'{k:Nat->Bool}{n:Nat}{e' e:As}{h' h:Ab}(h1:EDropK k e' e)(h2:HDropK k h' h):DropK k ⟨n,e',h'⟩ ⟨n,e,h⟩:=⟨rfl,h1,h2⟩
theorem Sim.cutK{H:Ax}{ι:Ba}{s s':Ai}{a:Act}{w:World}{k:Nat->Bool}(hs:Sim H ι s a w)(hd:DropK k s' s):Sim H (lcut ι k) s' a w:=by
 have hal: ∀b o,s'.h b=some o->o.alive=true->s.h b=some o/\k b=true/\o.avoid k=true:=fun b o h1 h2=>by
  rcases hd.h b o h1 with⟨g1,g2⟩ |⟨g1,_⟩
  . exact⟨g1,g2 h2⟩
  . subst g1;cases h2
 refine⟨hs.n.trans hd.n.symm,hs.d,fun t x hx=>?_,⟨hs.heap.know,fun b hb=>?_,fun b o h1 h2=>?_,fun b b' o o' r r' h1 h2 h3 h4 h5 h6=>?_,hs.heap.glob⟩⟩
 . obtain⟨g1,g2⟩:=hd.e t x hx;obtain⟨v,v1,v2⟩:=hs.env t x g1;exact⟨v,v1,DV v2 g2⟩
 . rcases hd.h b _ hb with⟨g1,_⟩ |⟨_,g2⟩
   . have:=hs.heap.free b g1;unfold lcut;rw[this];cases k b<;>rfl
   . unfold lcut;rw[show k b=false from g2];rfl
 . obtain⟨g1,g2,g3⟩:=hal b o h1 h2;obtain⟨r,r1,r2,r3⟩:=hs.heap.obj b o g1 h2;exact⟨r,by rw[CP (k:=k) g2];exact r1,GP r2 g3,r3⟩
 . exact hs.heap.inj b b' o o' r r' (hal b o h1 h2).1 h2 (hal b' o' h3 h4).1 h4 (Bi h5) (Bi h6)
theorem Step.cutK{H:Ax}{ι:Ba}{h h1 h':Ab}{w:World}{H':Ax}{ι':Ba}{w':World}{k:Nat->Bool}(hr:HeapRel H ι h w)(hf: ∀b,k b=false->h b=some .free)
 (st:Step H ι h w H' ι' h1 w') (hd:HDropK k h' h1):Step H ι h w H' (lcut ι' k) h' w' where
 size:=st.size
 os:=st.os
 out:=st.out
 keep:=st.keep
 kle:=st.kle
 knew:=st.knew
 lle:=fun b r e=>by
  cases hb:k b with
  | false=>rw[hr.free b (hf b hb)]at e;cases e
  | true=>rw[CP (k:=k) hb];exact st.lle b r e
 lframe:=fun b e=>by
  cases hb:k b with
  | false=>rw[hf b hb]at e;cases e
  | true=>rw[CP (k:=k) hb];exact st.lframe b e
 newrb:=fun b r' e=>st.newrb b r' (Bi e)
 dom:=fun b e=>by
  exact jn
section
variable {P : Program} {s : Ai} {Q : Exit -> Ai -> Prop}
theorem AGo.cutK{c:Code}{K:Ai->Prop}(k:Nat->Bool)(hf: ∀b,k b=false->s.h b=some .free)(h:AGo P c s (B4 (fun s1=>∃s2,DropK k s2 s1/\K s2) Q)):AGo P c s (B4 K Q):=fun H ι a w hs=>
 wp_mono (h H ι a w hs) fun e a' w' hp=>by
  obtain⟨s',H',ι',q,r,t⟩:=hp
  cases e with
  | normal=>
   obtain⟨s2,d,k2⟩:=q;exact⟨s2,H',_,k2,r.cutK d,t.cutK hs.heap hf d.h⟩
  | _=>exact⟨s',H',ι',q,r,t⟩
theorem A6{γ:Type}{c:Code}(k:Nat->Bool)(inv:γ->Ai)(F:γ->Prop)(μ:γ->Nat)(g0:γ)(h0:Sub (inv g0) s)(hF:F g0)(hf: ∀g b,k b=false->(inv g).h b=some .free)
 (round: ∀g,F g->AGo P c (inv g) (B4 (fun s'=>∃g',DropK k (inv g') s'/\F g'/\μ g'<μ g) Q)):AGo P (.loop c) s Q:=
 AGo.loopI inv F μ g0 h0 hF fun g hg=>AGo.cutK k (hf g) ((round g hg).mono fun e s'' hq=>by
  cases e with
  | normal=>obtain⟨g',h1,h2,h3⟩:=hq;exact⟨inv g',h1,g',Sub.refl _,h2,h3⟩
  | _=>exact hq)
def i8(Q:Exit->Ai->Prop):Exit->Ai->Prop
  | .goto _,_=>False
  | e,s=>Q e s
theorem AGo.scope{c:Code}(h:AGo P c s (i8 Q)):AGo P (.scope c) s Q:=fun H ι a w hs=>
 wp_scope_straight (wp_mono (h H ι a w hs) fun e a' w' hp=>by
  obtain⟨s',H',ι',q,r,t⟩:=hp
  cases e with
  | goto l=>exact q.elim
  | _=>exact⟨s',H',ι',q,r,t⟩)
end
section
variable {P : Program} {T : Nat -> Option Ar} {o : Oper} {e : As} {h : Ab}
def LR(P:Program)(o:Oper)(e:As)(h hn:Ab)(r:AV):Prop:=
  ∀(H:Ax) (ι:Ba) (a:Act) (w:World) (n:Nat) (Q:Exit->Act->World->Prop),Sim H ι ⟨n,e,h⟩ a w->
    o.wp P a w (fun a' w'=>∃v H' ι',a'=a.put o.dst v/\Rel H' ι' r v/\HeapRel H' ι' hn w'/\Step H ι h w H' ι' hn w') Q
theorem J3{f:FuncId}{fn:Func}{args:Array Operand}{tys:Array TypeId}{xs:List AV}{r:AV}{hc hw hn:Ab}(κ:Nat->Bool)(ho:o.op= .call {callee:=.value (.func f),args:=args,argTypes:=tys})(hf:P.funcs[f]?=some fn)(hnm:(fn.name== "runtime.NumGoroutine")=false)(hb:fn.body.isSome=true)
 (hx:AR e args.toList=some xs) (hxa:xs.all (AV.avoid κ)=true) (hL: ∀b,κ b=true->∃q,h b=some q/\q.avoid κ=true) (hres':D3 h κ=hc) (hW: ∀b,κ b=false->hn b=h b)
 (hk: ∀b,κ b=true->∃q,hw b=some q/\hn b=some q/\q.avoid κ=true) (hra:r.avoid κ=true)
 (hcall:ACall P f xs hc (fun r' h'=>r'=r/\HSub hw h')):LR P o e h hn r:=by
 intro H ι a w n Q hs;have hraa:=B3 hs hx;have hra':RelAll H (lcut ι κ) xs (args.map a.eval):=⟨hraa.1,fun j x v h1 h2=>DV (hraa.2 j x v h1 h2) (Ev hxa h1)⟩;have hrc:HeapRel H (lcut ι κ) (D3 h κ) w:=by
  exact jW
 have hcalls:=hcall H (lcut ι κ) w _ hra' (hres'▸hrc);have hexec:(execOp a.eval o).run P w= .ok (.enter f (args.map a.eval)) w:=by
  simp[execOp,ho,resolve,Act.eval,Deferred.ofValue,invoke,BO hf hnm hb]
 exact jS
theorem AOps.call{ops:Array Oper}{rest:List Oper}{n:Nat}{K:Ai->Prop}(d:Nat){hn:Ab}{r:AV}(hd:o.dst=some d)(hb:Nat.blt d n=true)(hg:AJ ops o e=some true)(ho:LR P o e h hn r)
 (hr:AOps P ops rest ⟨n,Aa e d r,hn⟩ K):AOps P ops (o::rest) ⟨n,e,h⟩ K:=by
 intro H ι a w hs;unfold wpList;rw[C9 hs hg];simp only[if_true];refine .inl (Oper.wp_mono (fun a' w' hx=>?_) (ho H ι a w n _ hs));obtain⟨v,H',ι',rfl,h1,h2,h3⟩:=hx;have hs':=hs.put (d:=o.dst) (r:=some r) h2 h3 (fun x ex=>by cases ex;exact h1) (J6 hd hb);rw[hd]at hs' |-;have:=hr H' ι' _ w' hs';have key: ∀(l:List Oper) (a1:Act) (w1:World),wpList P ops (Post H' ι' hn w' (B4 K fun _ _=>False)) l a1 w1->wpList P ops (Post H ι h w (B4 K fun _ _=>False)) l a1 w1:=by
  have hpost: ∀e a2 w2,Post H' ι' hn w' (B4 K fun _ _=>False) e a2 w2->Post H ι h w (B4 K fun _ _=>False) e a2 w2:=fun e a2 w2 hp=>Post.step hs.heap h2 h3 hp
  exact n5
 exact key _ _ _ this
end
section
variable {P : Program} {Q : Exit -> Ai -> Prop} {s : Ai} {c : Code}
def Un(P:Program)(c:Code)(Q:Exit->Ai->Prop):Nat->Ai->Prop
  | 0,s=>AGo P c s (B4 (fun _=>False) Q)
  | n+1,s=>AGo P c s (B4 (Un P c Q n) Q)
theorem TQ{n:Nat}(h:AGo P c s (B4 (Un P c Q n) Q)):Un P c Q (n+1) s:=h
theorem TP(h:AGo P c s (B4 (fun _=>False) Q)):Un P c Q 0 s:=h
theorem YY{e:Exit}{s:Ai}{K:Ai->Prop}(h:B4 (fun _=>False) Q e s):B4 K Q e s:=by
 cases e with
 | normal=>exact False.elim h
 | _=>exact h
theorem cW{e:Exit}{s:Ai}{g:Nat}(h:B4 (Un P c Q g) Q e s):B4 (fun s'=>∃g',Un P c Q g' s'/\g'<g+1) Q e s:=by
 cases e with
 | normal=>exact⟨g,h,Nat.lt_succ_self g⟩
 | _=>exact h
theorem Ou(n:Nat)(h:Un P c Q n s):AGo P (.loop c) s Q:=by
 refine AGo.loop (Un P c Q) (fun g=>g) n h fun g s hg=>?_
 cases g with
 | zero=>exact AGo.mono (Q:=B4 (fun _=>False) Q) hg fun e s h=>YY h
 | succ g=>exact AGo.mono (Q:=B4 (Un P c Q g) Q) hg fun e s h=>cW h
end
section
variable {P : Program} {T : Nat -> Option Ar} {o : Oper} {e : As} {h : Ab}
theorem PW{f g:Nat->Option (Nat×Nat)}(hfg: ∀i p,f i=some p->g i=some p): ∀(ps:List (Nat×Value)) (cs r:Array Value),Instr.fill f cs ps=some r->Instr.fill g cs ps=some r
 | [],_,_,h=>h
 |(i,v)::ps,cs,r,h=>by
  unfold Instr.fill at h |-
  cases e:f i with
  | none=>rw[e]at h;cases h
  | some p=>
   rw[e]at h;rw[hfg i p e];obtain⟨off,sz⟩:=p;simp only at h |-;split at h
   . cases h
   . rename_i hc;rw[if_neg hc];exact PW hfg ps _ _ h
def P9(len sz u:Nat):List (Nat×Nat):=(List.range len).map fun k=>(k*sz,u)
theorem Sp(hT:Cn P T){t:TypeId}{parts:Array (Nat×Operand)}{i j:Ar}{len u:Nat}{ps:List (Nat×AV)}{r:List AV}(ho:o.op= .build t parts)(hx:Bv e parts.toList=some ps)(hi:T t=some i)(hk:i.k= .array len u)(hj:T u=some j)(hz:i.zero.length=i.size)(hp:0<i.size)
 (hfit:FSq T (P9 len j.size u) ps=true) (hr:partCells (P9 len j.size u) ps i.zero=some r):QLoc P o e h [] (.agg r):=by
 intro H ι a w s hs g1 g2;have hx':Bv s.env parts.toList=some ps:=by
  exact cG
 obtain⟨l1,l2⟩:=Dk hs hx';obtain⟨info,d,e1,e2,e3,e4,e5,e6⟩:=Aj (hT _ _ hi);obtain⟨info',d',e1',e2',e3',e4',e5',e6'⟩:=Aj (hT _ _ hj);have hd:=HK (P:=P) (d:=d) (e3▸hk);subst hd;obtain⟨z,hz1,hz2⟩:=DM e6 hz hp;obtain⟨z1,z2⟩:=Dl (H:=H) (ι:=ι) hz2
 let places:Array (Nat×Nat):=((List.range len).map fun k=>(k*j.size,j.size)).toArray
 have hpl: ∀(i off t:Nat),(P9 len j.size u)[i]?=some (off,t)->∃i',T t=some i'/\places[i]?=some (off,i'.size):=fun i off t h=>by
  simp only[P9,List.getElem?_map,Option.map_eq_some_iff,Prod.mk.injEq]at h;obtain⟨k,hk,rfl,rfl⟩:=h;exact⟨j,hj,by simp[places,hk]⟩
 obtain⟨vs,f1,f2,f3⟩:=NV (T:=T) (s:=s) (a:=a) (w:=w) hpl ps (parts.toList.map fun(i,x)=>(i,a.eval x)) i.zero z.cells r (by simp[l1]) (fun k p q k1 k2=>⟨(l2 k p q k1 k2).1,(l2 k p q k1 k2).2,Hd hfit k p k1⟩) (by simpa using z1) (fun j x v k1 k2=>z2 j x v k1 (by simpa using k2)) hr;have f1':=PW (g:=fun i=>some (i*j.size,j.size)) (fun i p h=>by
  simp only[places,List.getElem?_toArray,List.getElem?_map,Option.map_eq_some_iff]at h;obtain⟨k,hk,rfl⟩:=h;have:=(List.getElem?_eq_some_iff.1 hk);simp at this;rw[this.2]) _ _ _ f1
 refine⟨.agg vs,.agg _ _ _ f2 f3,?_⟩;have hparts:(parts.map fun(i,x)=>(i,a.eval x)).toList=parts.toList.map fun(i,x)=>(i,a.eval x):=by simp
 simp only[execOp,ho,Instr.build,zeroValue,typeInfo,Sem.run_bind,run_program,Result.andThen_ok,e1,hz1,Sem.run_pure,Al e2,Fq e1',e4',hparts,f1']
end
def Ed(l:List UInt8):List (List AV):=l.map fun b=>[AV.int .u8 b.toNat]
theorem Na: ∀(l:List UInt8) (s:ByteArray),(l.map (fun b:UInt8=>((b.toNat:Nat):Int))).foldl (fun r n=>r.push (UInt8.ofNat n.toNat)) s=⟨s.data++l.toArray⟩
 | [],s=>by simp
 | b::r,s=>by
  simp only[List.map_cons,List.foldl_cons,Int.toNat_natCast,UInt8.ofNat_toNat];rw[Na r];show ByteArray.mk (s.data.push b++r.toArray)=_;congr 1;apply Array.toList_inj.1
  simp
theorem ZQ(l:List UInt8):(l.map (fun b:UInt8=>((b.toNat:Nat):Int))).foldl (fun r n=>r.push (UInt8.ofNat n.toNat)) ByteArray.empty=⟨l.toArray⟩:=by
 rw[Na];show ByteArray.mk (#[]++l.toArray)=_
 simp
section
variable {P : Program} {T : Nat -> Option Ar} {o : Oper} {e : As} {h : Ab}
end
section
variable {P : Program} {T : Nat -> Option Ar} {o : Oper} {e : As} {h : Ab}
end
section
variable {P : Program} {T : Nat -> Option Ar} {o : Oper} {e : As} {h : Ab}
theorem Sk(hT:Cn P T){t:TypeId}{x y y':Operand}{ex:Bool}{es:List (List AV)}{i j:Ar}{u:Nat}{k k':IntKind}(ho:o.op= .slice t x none (some y) (some y'))(hx:Ak e x=some (.lst ex es))(hy:Ak e y=some (.int k (es.length:Int)))(hy':Ak e y'=some (.int k' (es.length:Int)))(ht:T t=some i)(hk:i.k= .slice u)(hj:T u=some j):
 QLoc P o e h [] (.lst true es):=by
 intro H ι a w s hs g1 g2;have hx':Ak s.env x=some (.lst ex es):=by rw[g1 x (by rw[ho];simp[Op.operands]),hx]
 have hy1:Ak s.env y=some (.int k (es.length:Int)):=by rw[g1 y (by rw[ho];simp[Op.operands]),hy]
 have hy2:Ak s.env y'=some (.int k' (es.length:Int)):=by rw[g1 y' (by rw[ho];simp[Op.operands]),hy']
 obtain⟨info,d,e1,e2,e3,e4,e5,e6⟩:=Aj (hT _ _ ht);obtain⟨info',d',e1',e2',e3',e4',e5',e6'⟩:=Aj (hT _ _ hj);have hd:=Bn (P:=P) (d:=d) (e3▸hk);subst hd;have hvx:=Am hs hx';have hv1:=(Am hs hy1).int_inv;have hv2:=(Am hs hy2).int_inv;generalize hva:a.eval x=va at hvx;have hrun: ∀(ad:Option Addr) (cap:Nat),es.length<=cap->va= .slice ad es.length cap->(execOp a.eval o).run P w= .ok (.value (.slice (if es.length=0 then ad else ad.map (·.add (0*j.size))) (es.length-0) (es.length-0))) w:=fun ad cap hcap hv=>by
  simp only[execOp,ho,hva,hv,hv1,hv2,Instr.sliceAt,Instr.slice,Option.map_none,Option.map_some,Sem.run_bind,Al e2,Result.andThen_ok,Fq e1',e4',Sem.run_pure];simp[Instr.sliceBounds,Instr.sliceBound,asIntOf,hcap]
 rcases hvx.lst_inv with⟨rfl,ad,cap,rfl,h1,h2,h3,h4⟩ |⟨hne,b,off,cap,sz,c,vals,rfl,hb,hsz',hv,hr,hc1,hex,hcap,hmax⟩
 . refine⟨_,?_,hrun ad cap (Nat.zero_le _) rfl⟩;simp only[List.length_nil,if_true,Nat.sub_zero];exact .lst0 _ _ _ _ (fun _=>rfl) (Nat.zero_le _) (fun _=>rfl) trivial
 . refine⟨_,?_,hrun _ cap hcap rfl⟩;have hl:es.length≠0:=fun h=>hne (List.eq_nil_of_length_eq_zero h)
   rw[if_neg hl];have hadd:(some (⟨b,off,none⟩:Addr)).map (·.add (0*j.size))=some ⟨b,off,none⟩:=by simp[Addr.add]
   rw[hadd,Nat.sub_zero];exact .lst ι true es b off es.length sz c vals hne hb hsz' hv hr hc1 (fun _=>rfl) (Nat.le_refl _) (by omega)
def Q0(f:Bool)(b:Nat)(es:List (List AV)):AV:=bif f then .lst true es else .ref b es.length 0 es.length
def K4(f:Bool)(sz:Nat)(es:List (List AV)):AObj:=bif f then .free else .row true sz es
theorem Pm(hT:Cn P T){t t':TypeId}{x y:Operand}{i i' j:Ar}{u u':Nat}{f ex2:Bool}{sz:Nat}{es es2:List (List AV)}(b:Nat)
 (ho:o.op= .call {callee:=.builtin .append,args:= #[x,y],argTypes:= #[t,t']}) (hx:Ak e x=some (Q0 f b es)) (hy:Ak e y=some (.lst ex2 es2)) (hi:T t=some i) (hk:i.k= .slice u) (hj:T u=some j) (hi':T t'=some i') (hk':i'.k= .slice u')
 (hb:h b=some (K4 f sz es)) (hsz:sz=j.size) (hz:j.zero.length=j.size) (hp:0<j.size)
 (hu: ∀cs∈es,cs.length=sz) (hpu: ∀cs∈es,cs.all AV.isPure1=true) (hu2: ∀cs∈es2,cs.length=sz) (hpure: ∀cs∈es2,cs.all AV.isPure1=true)
 (hby:(es.length+es2.length)*j.bytes<=140737488355328) (hml:es.length+es2.length<=maxLen):
 OLoc P o e h [b] [(b,K4 (f&&es2.isEmpty) sz (es++es2))] (some (Q0 (f&&es2.isEmpty) b (es++es2))):=by
 cases f with
 | false=>
  have:=o_append hT ho hx hy hi hk hj hi' hk' hb rfl hsz hz hp (.lst ex2 es2) hu2 (fun _=>hpure) (m:=es2.length) rfl hby hml;simpa[Q0,K4]using this
 | true=>
  simp only[Q0,K4,cond_true]at hx hb
  cases hes2:es2 with
  | nil=>
   subst hes2;simp only[List.isEmpty_nil,Bool.and_self,List.append_nil,K4,Q0,cond_true];intro H ι a w s Q hs g1 g2;have hx':Ak s.env x=some (.lst true es):=by rw[g1 x HC,hx]
   have hy':Ak s.env y=some (.lst ex2 []):=by rw[g1 y HC,hy]
   have hb':s.h b=some .free:=by rw[g2 b (by simp),hb]
   obtain⟨info,d,e1,e2,e3,e4,e5,e6⟩:=Aj (hT _ _ hi);obtain⟨infou,du,f1,f2,f3,f4,f5,f6⟩:=Aj (hT _ _ hj);obtain⟨info',d',e1',e2',e3',e4',e5',e6'⟩:=Aj (hT _ _ hi');have hd:=Bn (P:=P) (d:=d) (e3▸hk);subst hd;have hd':=Bn (P:=P) (d:=d') (e3'▸hk');subst hd';have hvx:=Am hs hx';have hvy:=Am hs hy';generalize hva:a.eval x=va at hvx;generalize hvb:a.eval y=vb at hvy;obtain⟨news,hsrcw,hnews⟩:=KF hs.heap (SrcOf.lst ex2 []) hvy e2' hp (by intro cs h;cases h) w rfl;rw[<-f4]at hsrcw;have hnn:news=[]:=List.eq_nil_of_length_eq_zero (by rw[hsrcw.newsLen];simp);subst hnn;have hsame:hputs s.h [(b,.free)]=s.h:=by
    funext c
    by_cases hc:c=b
    . subst hc;simp[hputs,Ap,hb']
    . simp[hputs,AF _ _ hc]
   have hexec: ∀(v:Value) (w':World),(Builtin.append_ #[t,t'] o.type #[va,vb]).run P w= .ok v w'->(execOp a.eval o).run P w= .ok (.value v) w':=fun v w' hrun=>by
    exact Wy
   have hrun:(Builtin.append_ #[t,t'] o.type #[va,vb]).run P w= .ok va w:=by
    rcases hvx.lst_inv with⟨rfl,ad,cap,rfl,h1,h2,h3,h4⟩ |⟨hne,b0,off,cap,sz0,c,vals,rfl,hb0,hsz',hv,hr,hc1,hex,hcap,hmax⟩
    . have:=h1 rfl;subst this;exact HQ t t' o.type u infou e2 f1 ad vb hsrcw
    . have hsrc0:Src P infou.size t' vb 0 [] w:=hsrcw;have h1:=hsrc0.len;have h2:=hsrc0.cells;rcases hsrcw.kind with⟨e',hk⟩ | hk<;>simp[Builtin.append_,run_underlying e2,run_underlying hk,sizeOf,typeInfo,f1,h1,h2,hcap,storeCells]
   unfold Oper.wp;rw[hexec _ _ hrun,hsame];exact⟨va,H,ι,rfl,(fun x ex=>by have:=Option.some.inj ex;subst this;exact hvx),hs.heap,Step.refl _ _ _ _⟩
  | cons y0 r0=>
   rw[<-hes2];have hpos:0<es2.length:=by rw[hes2];simp
   have hie:es2.isEmpty=false:=by rw[hes2];rfl
   simp only[hie,Bool.and_false,K4,Q0,cond_false];subst hsz;refine DL hb (by simp) hp fun H ι a w s hs g1 g2=>?_
   have hx':Ak s.env x=some (.lst true es):=by rw[g1 x HC,hx]
   have hy':Ak s.env y=some (.lst ex2 es2):=by rw[g1 y HC,hy]
   obtain⟨info,d,e1,e2,e3,e4,e5,e6⟩:=Aj (hT _ _ hi);obtain⟨infou,du,f1,f2,f3,f4,f5,f6⟩:=Aj (hT _ _ hj);obtain⟨info',d',e1',e2',e3',e4',e5',e6'⟩:=Aj (hT _ _ hi');have hd:=Bn (P:=P) (d:=d) (e3▸hk);subst hd;have hd':=Bn (P:=P) (d:=d') (e3'▸hk');subst hd';obtain⟨z,hz1,hz2⟩:=DM f6 hz hp;have hzl:z.cells.size=j.size:=by rw[<-hz];simpa using(Dl (H:=H) (ι:=AQ) hz2).1.symm
   have hvx:=Am hs hx';have hvy:=Am hs hy';generalize hva:a.eval x=va at hvx;generalize hvb:a.eval y=vb at hvy;have hexec: ∀(v:Value) (w':World),(Builtin.append_ #[t,t'] o.type #[va,vb]).run P w= .ok v w'->(execOp a.eval o).run P w= .ok (.value v) w':=fun v w' hrun=>by
    exact Wy
   obtain⟨news,hsrcw,hnews⟩:=KF hs.heap (SrcOf.lst ex2 es2) hvy e2' hp hu2 w rfl;rw[<-f4]at hsrcw;have hnl:news.length=es2.length*j.size:=by rw[hsrcw.newsLen,f4]
   have h63:((es.length+es2.length:Nat):Int)<=9223372036854775807:=by
    have:=hml;simp only[maxLen]at this;omega
   -- what stands there already
   obtain⟨base,olds,hv,hold,hol,holdr⟩: ∃(base:Option Addr) (olds:List Value),va= .slice base es.length es.length/\(Builtin.firstCells infou.size es.length (.slice base es.length es.length)).run P w.drew= .ok olds.toArray w.drew/\olds.length=es.length*j.size/\
    (∀(i:Nat) (cs:List AV) (k:Nat) (x:AV),es[i]?=some cs->cs[k]?=some x->∃v,olds[i*j.size+k]?=some v/\Rel H AQ x v/\x.cell1=true):=by
    rcases hvx.lst_inv with⟨rfl,ad,cap,rfl,h1,h2,h3,h4⟩ |⟨hne,b0,off,cap,sz0,c,vals,rfl,hb0,hsz',hv,hr,hc1,hex,hcap,hmax⟩
    . have:=h1 rfl;subst this;refine⟨ad,[],rfl,?_,by simp,fun i cs k x h1=>by simp at h1⟩
      cases ad<;>simp[Builtin.firstCells,loadCells,loadCellsFrom]
    . have hcl:=hex rfl;subst hcl;obtain⟨TT,fr,hbw⟩:=hs.heap.know b0 c hb0;have hss:sz0=j.size:=by
       exact f0
      subst hss;have hget: ∀k,k<es.length*j.size->∃v,c[off+k]?=some v:=fun k hk=>by
       have hi:k/j.size<es.length:=Nat.div_lt_of_lt_mul (by rw[Nat.mul_comm];exact hk);have hm:k%j.size<j.size:=Nat.mod_lt _ hp;have hjj:k/j.size*j.size+k%j.size=k:=by rw[Nat.mul_comm];exact Nat.div_add_mod k j.size
       have h1:es[k/j.size]?=some es[k/j.size]:=List.getElem?_eq_getElem hi;have h2:(es[k/j.size])[k%j.size]?=some ((es[k/j.size])[k%j.size]'(by rw[hsz' _ _ h1];exact hm)):=List.getElem?_eq_getElem _;have:=hv _ _ _ _ h1 h2;rw[Nat.add_assoc,hjj]at this;exact⟨_,this⟩
      have hfit:off+es.length*j.size<=c.size:=by
       rcases Nat.eq_zero_or_pos (es.length*j.size)with h0 | h0
       . have:=List.length_pos_iff.2 hne;have:=Nat.mul_pos this hp;omega
       . obtain⟨v,hv⟩:=hget (es.length*j.size-1) (by omega);have:=(Array.getElem?_eq_some_iff.1 hv).1;omega
      have hg: ∀k,k<es.length*j.size->((c.toList.drop off).take (es.length*j.size))[k]?=c[off+k]?:=fun k hk=>by
       rw[List.getElem?_take_of_lt hk,List.getElem?_drop,Array.getElem?_toList]
      have hl:((c.toList.drop off).take (es.length*j.size)).length=es.length*j.size:=by simp;omega
      refine⟨_,(c.toList.drop off).take (es.length*j.size),rfl,?_,hl,fun i cs k x h1 h2=>?_⟩
      . rw[f4];refine run_firstCells_some (P:=P) w.drew j.size es.length ⟨b0,off,none⟩ es.length es.length _ hl (fun k v hk=>?_);have hkl:k<es.length*j.size:=by
         have:=(List.getElem?_eq_some_iff.1 hk).1;omega
        rw[hg k hkl]at hk;rw[ER,World.cell?_drew,Ko hbw];exact hk
      . have hi:i<es.length:=(List.getElem?_eq_some_iff.1 h1).1;have hkk:k<j.size:=by rw[<-hsz' i cs h1];exact(List.getElem?_eq_some_iff.1 h2).1
        have h3:=hv i cs k x h1 h2;exact⟨_,by rw[hg _ (Cr hi hkk),<-Nat.add_assoc];exact h3,hr i cs k x h1 h2,hc1 i cs k x h1 h2⟩
   have hfit:Builtin.nextslicecap (es.length+es2.length) es.length*infou.bytes<=281474976710656:=growslice_fits (by omega) (by rw[f5];exact hby);have hrun:=run_append_grow_src (P:=P) w t t' o.type u infou z e2 f1 hz1 base es.length es.length olds hold vb es2.length news hsrcw (by omega) h63 hfit;have hge:=grownCap_ge w (es.length+es2.length) es.length u;have hcm:grownCap w (es.length+es2.length) es.length u<=maxLen:=grownCap_le_maxLen w _ es.length u hml;generalize hcc:grownCap w (es.length+es2.length) es.length u=nc at*;generalize hC:(olds++news).toArray++Builtin.zeroCells z.cells (nc-(es.length+es2.length))=C at*;have hCs:C.size=nc*j.size:=by
    rw[<-hC,Array.size_append,size_zeroCells,hzl];simp only[List.size_toArray,List.length_append,hol,hnl,<-Nat.add_mul];congr 1;omega
   have hCg: ∀k,k<olds.length+news.length->C[k]?=(olds++news)[k]?:=fun k hk=>by
    rw[<-hC,Array.getElem?_append_left (by simp;omega)]
    simp
   have hnewsp: ∀(i:Nat) (cs:List AV) (k:Nat) (y:AV),es2[i]?=some cs->cs[k]?=some y->∃v,news[i*j.size+k]?=some v/\Rel H AQ y v/\y.cell1=true:=fun i cs k y h1 h2=>by
    obtain⟨v,k1,k2,k3⟩:=hnews i cs k y h1 h2;exact⟨v,k1,CU (List.all_eq_true.1 (hpure cs (List.mem_of_getElem? h1)) y (List.mem_of_getElem? h2)) k2,k3⟩
   refine⟨_,C,u,w.drew,rfl,rfl,rfl,?_,Fc hol hnl hu2 (fun i cs h=>hu cs (List.mem_of_getElem? h)) holdr hnewsp hCg,hexec _ _ (hv▸hrun),?_⟩
   . rw[List.length_append,hCs];exact Nat.mul_le_mul_right _ hge
   . have:=Rel.refL (H:=H) (Dp ι b ⟨w.heap.size,j.size,(es++es2).length,C.size⟩) b (es++es2).length 0 (es++es2).length nc _ (Bb _ _ _) rfl (by omega) (by rw[List.length_append];exact hge) (by simp[hCs]) hcm;simpa using this
end
theorem Ghost.trans{s s' s'':Ai}(g1:Ghost s s')(g2:Ghost s' s''):Ghost s s'':=fun H ι a w hs=>by
 obtain⟨H1,ι1,h1,s1⟩:=g1 H ι a w hs;obtain⟨H2,ι2,h2,s2⟩:=g2 H1 ι1 a w h1;exact⟨H2,ι2,h2,Step.trans hs.heap s1 h1.heap s2⟩
theorem Om{n:Nat}{e:As}{h:Ab}(t:Nat){x y:AV}(ht:e t=some x)(hxy: ∀H ι v,Rel H ι x v->Rel H ι y v):Ghost ⟨n,e,h⟩ ⟨n,Aa e t y,h⟩:=fun H ι a w hs=>
 ⟨H,ι,⟨hs.n,hs.d,fun u z hz=>by
  by_cases hu:u=t
  . subst hu;simp only[Cm,Option.some.injEq]at hz;subst hz;obtain⟨v,h1,h2⟩:=hs.env u _ ht;exact⟨v,h1,hxy _ _ _ h2⟩
  . simp only[DU _ _ hu]at hz;exact hs.env u z hz,hs.heap⟩,Step.refl _ _ _ _⟩
theorem Xy{H:Ax}{ι:Ba}{v:Value}(h:Rel H ι .nil v):Rel H ι (.lst false []) v:=by
 rw[h.nil_inv];exact .lst0 _ _ _ _ (fun h=>by cases h) (Nat.zero_le _) (fun _=>rfl) trivial
theorem OS{n:Nat}{e:As}{h:Ab}(b:Nat){sz:Nat}{es es':List (List AV)}(hb:h b=some (.row true sz es))(hl:es'.length=es.length)
 (hw: ∀(i:Nat) (cs cs':List AV),es[i]?=some cs->es'[i]?=some cs'->cs'.length=cs.length/\∀(j:Nat) (x y:AV),cs[j]?=some x->cs'[j]?=some y->y.cell1=true/\∀H v,Rel H AQ x v->Rel H AQ y v):Ghost ⟨n,e,h⟩ ⟨n,e,hput h b (.row true sz es')⟩:=fun H ι a w hs=>by
 obtain⟨r,hr,⟨r1,r2,r3,r4,r5,r6⟩,r7⟩:=hs.heap.obj b _ hb rfl;have hlput:Dp ι b r=ι:=by
  funext c
  by_cases hc:c=b
  . subst hc;rw[Bb,hr]
  . rw[C7 _ _ hc]
 have old: ∀(i:Nat) (cs':List AV),es'[i]?=some cs'->∃cs,es[i]?=some cs:=fun i cs' h=>by
  have:=(List.getElem?_eq_some_iff.1 h).1;exact⟨_,List.getElem?_eq_getElem (by omega)⟩
 have hlen: ∀(i:Nat) (cs':List AV),es'[i]?=some cs'->cs'.length=sz:=fun i cs' h=>by
  obtain⟨cs,hc⟩:=old i cs' h;rw[(hw i cs cs' hc h).1,r5 i cs hc]
 have:=hs.heap.upd (w':=w) (o0:=.row true sz es) (o':=.row true sz es') (r':=r) hb rfl (.inr ⟨r,hr,rfl,.inl rfl⟩) (fun hs'=>.inr ⟨r,hr,rfl,hs',rfl⟩) (fun _ _ _=>rfl) (Nat.le_refl _) rfl rfl
  ⟨r1,r2,by rw[hl];exact r3,by rw[hl];exact r4,hlen,fun hsol=>by
   obtain⟨c,TT,w1,w2,w3⟩:=r6 hsol;exact⟨c,TT,w1,w2,hlen,fun k ds q z hk hq=>by
    obtain⟨cs,hc⟩:=old k ds hk;obtain⟨e1,e2⟩:=hw k cs ds hc hk;have hq':q<cs.length:=by rw[<-e1];exact(List.getElem?_eq_some_iff.1 hq).1
    have hx:cs[q]?=some cs[q]:=List.getElem?_eq_getElem hq';obtain⟨v,f1,f2,f3⟩:=w3.2 k cs q _ hc hx;obtain⟨g1,g2⟩:=e2 q _ z hx hq;exact⟨v,f1,g2 _ _ f2,g1⟩⟩⟩
 rw[hlput]at this;exact⟨H,ι,⟨hs.n,hs.d,hs.env,this.1⟩,this.2⟩
theorem BR{h:Ab}{k b:Nat}(hh:HSub (Bw k) h)(hb:b<k):HSub (Bw k) (hrm h b):=fun c x hx=>by
 have hne:c≠b:=fun e=>by
  subst e;have h1:Nat.blt c k=true:=by rw[Nat.blt_eq];exact hb
  simp only[Bw,h1,cond_true]at hx
  cases hx
 rw[EL _ hne];exact hh c x hx
theorem Ghost.endJ{n:Nat}{e:As}{h:Ab}(t b:Nat){f:Bool}{sz:Nat}{es:List (List AV)}(ht:e t=some (Q0 f b es))(hb:h b=some (K4 f sz es)):Ghost ⟨n,e,h⟩ ⟨n,Aa e t (.lst false es),hrm h b⟩:=by
 cases f with
 | false=>
  have:=Ghost.freeze (n:=n) t b ht hb rfl;rwa[List.drop_zero,List.take_length]at this
 | true=>
  refine(Om t ht (fun H ι v h=>rel_unex h)).trans (.of_sub ⟨rfl,fun _ _ h=>h,fun c x hx=>?_⟩)
  by_cases hc:c=b
  . subst hc;have:hrm h c c=some x:=hx;rw[FY]at this;cases this
  . have:hrm h b c=some x:=hx;rwa[EL _ hc]at this
def arrAV(K:IntKind)(l:List Int):List AV:=l.map fun n=>.int K n
def DW(K:IntKind)(l:List Int):Array Value:=(l.map fun n=>Value.int K n).toArray
theorem XL{H:Ax}{ι:Ba}{K:IntKind}{l:List Int}{us:Array Value}(hl:(arrAV K l).length=us.size)(h: ∀(j:Nat) (x:AV) (v:Value),(arrAV K l)[j]?=some x->us[j]?=some v->Rel H ι x v):us=DW K l:=by
 apply Array.ext
 . simpa[arrAV,DW]using hl.symm
 . intro j h1 h2;have hj:j<l.length:=by simpa[DW]using h2
   have:=h j (.int K l[j]) us[j] (by simp[arrAV,hj]) (Array.getElem?_eq_getElem h1);rw[this.int_inv];simp[DW]
section
variable {P : Program}
theorem HO{w:World}{t:TypeId}{K:IntKind}{l:List Int}(hu:P.underlying t=some (.int K)){j:Nat}{n:Int}(h:l[j]?=some n):(part t (DW K l) j).run P w= .ok (.int K n) w:=
 KI hu rfl (by simp[DW,h])
theorem MR{w:World}{t:TypeId}{K:IntKind}(hu:P.underlying t=some (.int K))(d:Nat)(l1 l2:List Int): ∀(m k:Nat),l1.length=k+m->l2.length=k+m->
 (Op.eqItems (d+1) t 1 (DW K l1) (DW K l2) (List.range' k m)).run P w= .ok (decide (l1.drop k=l2.drop k)) w
 | 0,k,h1,h2=>by
  rw[List.drop_of_length_le (by omega),List.drop_of_length_le (by omega)];simp[Op.eqItems]
 | m+1,k,h1,h2=>by
  have g1:k<l1.length:=by omega
  have g2:k<l2.length:=by omega
  have ih:=MR (w:=w) hu d l1 l2 m (k+1) (by omega) (by omega);rw[List.range'_succ];simp only[Op.eqItems,Nat.mul_one,Sem.run_bind,HO hu (List.getElem?_eq_getElem g1),HO hu (List.getElem?_eq_getElem g2),Result.andThen_ok,run_equalIn_int w d t _ _ _ _ hu];have hd:(l1.drop k=l2.drop k)↔(l1[k]=l2[k]/\l1.drop (k+1)=l2.drop (k+1)):=by
   rw[List.drop_eq_getElem_cons g1,List.drop_eq_getElem_cons g2,List.cons.injEq]
  by_cases he:l1[k]=l2[k]
  . simp only[he,if_true,Result.andThen_ok];simp only[hd,he,true_and];simp[ih]
  . simp[hd,he]
theorem I6{w:World}{t e:TypeId}{n:Nat}{K:IntKind}(hu:P.underlying t=some (.array n e))(he:P.underlying e=some (.int K))(hc:P.cellsOf e=1)(d:Nat){l1 l2:List Int}(h1:l1.length=n)(h2:l2.length=n):
 (Op.equalIn (d+2) t (.agg (DW K l1)) (.agg (DW K l2))).run P w= .ok (decide (l1=l2)) w:=by
 obtain⟨i,hi⟩:=info_of_underlying he;rw[run_equalIn_array w (d+1) _ _ hu hi,hc,List.range_eq_range'];have:=MR (w:=w) he d l1 l2 n 0 (by omega) (by omega);simpa using this
theorem OH{w:World}{kt:TypeId}{K:IntKind}(hk:P.underlying kt=some (.int K))(em:Bool)(n:Nat)(z:Int):(Instr.checkKey em (n+1) kt (.int K z)).run P w= .ok () w:=by
 rw[Instr.checkKey];simp[Al hk]
theorem EW{w:World}{t e:TypeId}{n:Nat}{K:IntKind}(hu:P.underlying t=some (.array n e))(he:P.underlying e=some (.int K))(hc:P.cellsOf e=1)(em:Bool){l:List Int}(h:l.length=n):(Instr.checkKey em 10000 t (.agg (DW K l))).run P w= .ok () w:=by
 obtain⟨i,hi⟩:=info_of_underlying he;rw[Instr.checkKey];simp only[Sem.run_bind,Al hu,Result.andThen_ok];simp only[Std.Legacy.Range.forIn_eq_forIn_range',Std.Legacy.Range.size,Nat.sub_zero,Nat.add_one_sub_one,Nat.div_one];have key: ∀(m k:Nat),l.length=k+m->((forIn (List.range' k m) PUnit.unit fun i r=>do let a<-sizeOf e;let b<-part e (DW K l) (i*a);Instr.checkKey em 9999 e b;pure (ForInStep.yield PUnit.unit)):Sem PUnit).run P w= .ok PUnit.unit w:=by
  intro m
  induction m with
  | zero=>intro k hk;simp
  | succ m ih=>
   intro k hk;have hkl:k<l.length:=by omega
   have ih':=ih (k+1) (by omega);rw[List.range'_succ];simp only[List.forIn_cons,Sem.run_bind,run_sizeOf w hi,hc,Nat.mul_one,Result.andThen_ok,HO he (List.getElem?_eq_getElem hkl),OH he em 9998];simpa using ih'
 have h0:=key n 0 (by omega);simp at h0 |-;rw[h0];rfl
end
abbrev HF:=List (List Int×AV)
def Fu(K:IntKind)(m:HF):List (AV×AV):=m.map fun p=>(.agg (arrAV K p.1),p.2)
def alook(z:List Int):HF->Option (Nat×AV)
  | []=>none
  |(k,v)::r=>bif z==k then some (0,v)else(alook z r).map fun p=>(p.1+1,p.2)
def Yx(z:List Int)(m:HF):Option AV:=(alook z m).map (·.2)
def OQ(z:List Int)(v:AV):HF->HF
  | []=>[(z,v)]
  |(k,u)::r=>bif z==k then(k,v)::r else(k,u)::OQ z v r
inductive EntRelA(H:Ax)(K:IntKind):HF->List MapEntry->Prop
  | nil:EntRelA H K [] []
  | cons (z:List Int) (v:AV) (m:HF) (e:MapEntry) (es:List MapEntry) (hk:e.key= .agg (DW K z)) (hv:Rel H AQ v e.val) (h:EntRelA H K m es):EntRelA H K ((z,v)::m) (e::es)
theorem ey(H:Ax)(K:IntKind)(z:List Int):Rel H AQ (.agg (arrAV K z)) (.agg (DW K z)):=
 .agg _ _ _ (by simp[arrAV,DW]) fun j x u h1 h2=>by
  simp only[arrAV,List.getElem?_map,Option.map_eq_some_iff]at h1;obtain⟨n,hn,rfl⟩:=h1;have:u= .int K n:=by simpa[DW,hn]using h2.symm
  subst this;exact .int _ _ _
theorem Rel.ints{H:Ax}{ι:Ba}{K:IntKind}{z:List Int}{v:Value}(h:Rel H ι (.agg (arrAV K z)) v):v= .agg (DW K z):=by
 obtain⟨us,rfl,h1,h2⟩:=h.agg_inv;rw[XL h1 h2]
theorem NY{H:Ax}{K:IntKind}: ∀{m:HF} {es:List MapEntry},(Fu K m).length=es.length->(∀(j:Nat) (k v:AV),(Fu K m)[j]?=some (k,v)->∃e,es[j]?=some e/\Rel H AQ k e.key/\Rel H AQ v e.val)->EntRelA H K m es
 | [],es,h1,_=>by
  have:es=[]:=List.length_eq_zero_iff.1 (by simpa[Fu]using h1.symm);subst this;exact .nil
 |(z,v)::m,[],h1,_=>by simp[Fu]at h1
 |(z,v)::m,e::es,h1,h2=>by
  obtain⟨e',g1,g2,g3⟩:=h2 0 (.agg (arrAV K z)) v rfl;simp at g1;subst g1;exact .cons z v m e es g2.ints g3 (NY (by simpa[Fu]using h1) fun j k u hj=>by
   obtain⟨e',k1,k2⟩:=h2 (j+1) k u (by simpa[Fu]using hj);exact⟨e',by simpa using k1,k2⟩)
theorem EntRelA.out{H:Ax}{K:IntKind}{m:HF}{es:List MapEntry}(h:EntRelA H K m es):(Fu K m).length=es.length/\∀(j:Nat) (k v:AV),(Fu K m)[j]?=some (k,v)->∃e,es[j]?=some e/\Rel H AQ k e.key/\Rel H AQ v e.val:=by
 induction h with
 | nil=>exact⟨rfl,fun j k v h=>by simp[Fu]at h⟩
 | cons z v m e es hk hv h ih=>
  refine⟨by simpa[Fu]using ih.1,fun j k u hj=>?_⟩
  cases j with
  | zero=>
   simp[Fu]at hj;obtain⟨rfl,rfl⟩:=hj;exact⟨e,rfl,by rw[hk];exact ey _ _ _,hv⟩
  | succ j=>
   obtain⟨e',k1,k2⟩:=ih.2 j k u (by simpa[Fu]using hj);exact⟨e',by simpa using k1,k2⟩
theorem mapCellsA_iff{H:Ax}{K:IntKind}{m:HF}{es:Array MapEntry}:Nx H (Fu K m) es↔EntRelA H K m es.toList:=by
 constructor
 . rintro⟨h1,h2⟩
   exact NY (by simpa using h1) fun j k v hj=>by
    obtain⟨e,g1,g2⟩:=h2 j k v hj;exact⟨e,by simpa using g1,g2⟩
 . intro h;obtain⟨h1,h2⟩:=h.out;exact⟨by simpa using h1,fun j k v hj=>by
    obtain⟨e,g1,g2⟩:=h2 j k v hj;exact⟨e,by simpa using g1,g2⟩⟩
theorem EntRelA.find{H:Ax}{K:IntKind}{m:HF}{es:List MapEntry}{P:Program}{w:World}{t e0:TypeId}{n:Nat}(hu:P.underlying t=some (.array n e0))(he:P.underlying e0=some (.int K))(hc:P.cellsOf e0=1)
 (h:EntRelA H K m es) {z:List Int} (hz:z.length=n) (hm: ∀p∈m,p.1.length=n): ∀i,∃r,(Instr.findAsking t (.agg (DW K z)) es i).run P w= .ok r w/\
 ((alook z m=none/\r=none)\/∃j v e,alook z m=some (j,v)/\r=some (i+j,e.val)/\es[j]?=some e/\e.key= .agg (DW K z)/\Rel H AQ v e.val):=by
 induction h with
 | nil=>exact fun i=>⟨none,by simp[Instr.findAsking],.inl ⟨rfl,rfl⟩⟩
 | cons k v m e es hk hv h ih=>
  intro i;obtain⟨r,r1,r2⟩:=ih (fun p hp=>hm p (by simp[hp])) (i+1);have heq:(Op.equal t (.agg (DW K z)) e.key).run P w= .ok (decide (z=k)) w:=by
   rw[hk];exact I6 hu he hc 9998 hz (hm (k,v) (by simp))
  by_cases hzk:z=k
  . subst hzk;refine⟨some (i,e.val),by simp[Instr.findAsking,heq],.inr ⟨0,v,e,by simp[alook],rfl,rfl,hk,hv⟩⟩
  . have hb:(z==k)=false:=by simpa using hzk
    refine⟨r,by simp[Instr.findAsking,heq,hzk,r1],?_⟩;rcases r2 with⟨g1,g2⟩ |⟨j,u,e',g1,g2,g3,g4⟩
    . exact .inl ⟨by simp[alook,hb,g1],g2⟩
    . exact .inr ⟨j+1,u,e',by simp[alook,hb,g1],by rw[g2];congr 2;omega,by simpa using g3,g4⟩
theorem EntRelA.set_new{H:Ax}{K:IntKind}{m:HF}{es:List MapEntry}(h:EntRelA H K m es){z:List Int}{v:AV}{val:Value}(hv:Rel H AQ v val)(clk:Nat)(hn:alook z m=none):EntRelA H K (OQ z v m) (es++[{key:=.agg (DW K z),val:=val,born:=clk}]):=by
 induction h with
 | nil=>exact .cons z v [] _ [] rfl hv .nil
 | cons k u m e es hk hu h ih=>
  unfold alook at hn
  cases hz:z==k with
  | true=>rw[hz]at hn;cases hn
  | false=>
   rw[hz]at hn;have:alook z m=none:=by simpa using hn
   unfold OQ;rw[hz];exact .cons k u _ e _ hk hu (ih this)
theorem EntRelA.set_old{H:Ax}{K:IntKind}{m:HF}{es:List MapEntry}(h:EntRelA H K m es){z:List Int}{v:AV}{val:Value}(hv:Rel H AQ v val): ∀{j:Nat} {v0:AV},alook z m=some (j,v0)->EntRelA H K (OQ z v m) (es.modify j fun e=>{e with key:=.agg (DW K z),val:=val}):=by
 induction h with
 | nil=>intro j v0 hn;cases hn
 | cons k u m e es hk hu h ih=>
  intro j v0 hn;unfold alook at hn
  cases hz:z==k with
  | true=>
   rw[hz]at hn;simp at hn;obtain⟨rfl,rfl⟩:=hn;unfold OQ;rw[hz];have:z=k:=by simpa using hz
   subst this;exact .cons z v m _ es rfl hv h
  | false=>
   rw[hz]at hn;simp only[cond_false,Option.map_eq_some_iff]at hn;obtain⟨⟨j',v'⟩,g1,g2⟩:=hn;simp at g2;obtain⟨rfl,rfl⟩:=g2;unfold OQ;rw[hz];exact .cons k u _ e _ hk hu (ih g1)
theorem Fs{P:Program}{w:World}{t e0:TypeId}{n:Nat}(hu:P.underlying t=some (.array n e0))(x:Value)(es:List MapEntry):(Instr.findKey t x es).run P w=(Instr.findAsking t x es).run P w:=
 run_findKey_eq w (by rw[hu]) x es
theorem Qx(K:IntKind)(z:List Int):Instr.sameBits 10000 (.agg (DW K z)) (.agg (DW K z))=true:=by
 rw[Instr.sameBits];simp only[beq_self_eq_true,Bool.true_and,List.all_eq_true]
 rintro⟨a,b⟩ hab
 have h1: ∀(l:List Value) (a b:Value),(a,b)∈l.zip l->a=b/\a∈l:=by
  intro l
  induction l with
  | nil=>intro a b h;simp at h
  | cons x l ih=>
   intro a b h;simp only[List.zip_cons_cons,List.mem_cons,Prod.mk.injEq]at h;rcases h with⟨rfl,rfl⟩ | h
   . exact⟨rfl,by simp⟩
   . obtain⟨g1,g2⟩:=ih a b h;exact⟨g1,by simp[g2]⟩
 obtain⟨rfl,hm⟩:=h1 _ a b hab;simp only[DW,List.mem_map]at hm;obtain⟨n,_,rfl⟩:=hm;rw[Instr.sameBits]
 simp
theorem OG{P:Program}{w:World}{K:IntKind}(z:List Int):(Instr.keyThatStays (.agg (DW K z)) (.agg (DW K z))).run P w= .ok (.agg (DW K z)) w:=by
 unfold Instr.keyThatStays;rw[if_pos (Qx K z)];rfl
section
variable {P : Program} {T : Nat -> Option Ar} {o : Oper} {e : As} {h : Ab}
theorem So(hT:Cn P T){t t':TypeId}{x y:Operand}{K:IntKind}{l1 l2:List Int}{i j:Ar}{n e0:Nat}(neg:Bool)(ho:o.op= .binOp (bif neg then .neq else .eql) t x y t')(hx:Ak e x=some (.agg (arrAV K l1)))(hy:Ak e y=some (.agg (arrAV K l2)))(hp:P.eqGuardType P.depth t=false)(hi:T t=some i)(hk:i.k= .array n e0)
 (hj:T e0=some j) (hjk:j.k= .int K) (h1:l1.length=n) (h2:l2.length=n) (hc:P.cellsOf e0=1):QLoc P o e h [] (.bool (bif neg then !(decide (l1=l2))else decide (l1=l2))):=by
 intro H ι a w s hs g1 g2;have hx':Ak s.env x=some (.agg (arrAV K l1)):=by rw[g1 x (by rw[ho];simp[Op.operands]),hx]
 have hy':Ak s.env y=some (.agg (arrAV K l2)):=by rw[g1 y (by rw[ho];simp[Op.operands]),hy]
 have hvx:=(Am hs hx').ints;have hvy:=(Am hs hy').ints;obtain⟨info,d,e1,e2,e3,e4,e5,e6⟩:=Aj (hT _ _ hi);obtain⟨info',d',e1',e2',e3',e4',e5',e6'⟩:=Aj (hT _ _ hj);have hd:=HK (P:=P) (d:=d) (e3▸hk);subst hd;have hd':=Gv (P:=P) (d:=d') (e3'▸hjk);subst hd';have hrun:(Op.equalIn 10000 t (.agg (DW K l1)) (.agg (DW K l2))).run P w= .ok (decide (l1=l2)) w:=I6 e2 e2' hc 9998 h1 h2;refine⟨_,.bool _ _,?_⟩
 cases neg with
 | true=>
  simp only[cond_true]at ho |-;simp only[execOp,ho,hvx,hvy,Sem.run_bind,run_eqGuard_agg w .neq t x y _ _ hp,Result.andThen_ok,run_neq_struct,hrun,Sem.run_pure]
 | false=>
  simp only[cond_false]at ho |-;simp only[execOp,ho,hvx,hvy,Sem.run_bind,run_eqGuard_agg w .eql t x y _ _ hp,Result.andThen_ok,run_eql_struct,hrun,Sem.run_pure]
theorem Sm(hT:Cn P T){t kt et:TypeId}{x y:Operand}{b:Nat}{K:IntKind}{z:List Int}{m:HF}{i j j0:Ar}{n e0:Nat}{zv:Value}{z0:AV}(ho:o.op= .lookup t x y true)(hx:Ak e x=some (.map b))(hy:Ak e y=some (.agg (arrAV K z)))(hb:h b=some (.map (Fu K m)))
 (hi:T t=some i) (hk:i.k= .map kt et) (hj:T kt=some j) (hjk:j.k= .array n e0) (hj0:T e0=some j0) (hjk0:j0.k= .int K) (hc:P.cellsOf e0=1) (hzl:z.length=n) (hm: ∀p∈m,p.1.length=n) (hz:(P.info? et).bind (·.zero)=some zv) (hz0:Ii zv=some z0):QLoc P o e h [b] (.tup [(Yx z m).getD z0,.bool (Yx z m).isSome]):=by
 intro H ι a w s hs h1 h2;have hx':Ak s.env x=some (.map b):=by rw[h1 x (by rw[ho];simp[Op.operands]),hx]
 have hy':Ak s.env y=some (.agg (arrAV K z)):=by rw[h1 y (by rw[ho];simp[Op.operands]),hy]
 have hb':s.h b=some (.map (Fu K m)):=by rw[h2 b (by simp),hb]
 obtain⟨info,d,e1,e2,e3,e4,e5,e6⟩:=Aj (hT _ _ hi);obtain⟨info',d',e1',e2',e3',e4',e5',e6'⟩:=Aj (hT _ _ hj);obtain⟨info0,d0,e10,e20,e30,e40,e50,e60⟩:=Aj (hT _ _ hj0);have hd:=G5 (P:=P) (d:=d) (e3▸hk);subst hd;have hd':=HK (P:=P) (d:=d') (e3'▸hjk);subst hd';have hd0:=Gv (P:=P) (d:=d0) (e30▸hjk0);subst hd0;have hvy:=(Am hs hy').ints;obtain⟨r,hr,hr0,hvx⟩:=(Am hs hx').map_inv;obtain⟨r',hl,⟨r1,r2,es,clk,r3,r4,r6⟩,r5⟩:=hs.heap.obj b _ hb' rfl;rw[hr]at hl;cases hl;obtain⟨rr,f1,f2⟩:=(mapCellsA_iff.1 r4).find (w:=w) e2' e20 hc hzl hm 0;have hzero:(zeroValue et).run P w= .ok zv w:=by
  exact ji
 rcases f2 with⟨g1,rfl⟩ |⟨p,v,en,g1,rfl,g3,g4,g5⟩
 . refine⟨.tuple #[zv,.bool false],?_,?_⟩
   . simp only[Yx,g1,Option.map_none,Option.getD_none,Option.isSome_none];exact jv
   . simp[execOp,ho,Instr.lookup,hvx,hvy,Al e2,MapKept.run_getObj_map r3,EW e2' e20 hc _ hzl,Fs e2',f1,hzero]
 . refine⟨.tuple #[en.val,.bool true],?_,?_⟩
   . simp only[Yx,g1,Option.map_some,Option.getD_some,Option.isSome_some];exact jA
   . simp[execOp,ho,Instr.lookup,hvx,hvy,Al e2,MapKept.run_getObj_map r3,EW e2' e20 hc _ hzl,Fs e2',f1]
theorem Nw{H:Ax}{ι:Ba}{s:Ai}{a:Act}{w:World}(hs:Sim H ι s a w){b:Nat}{K:IntKind}{m m':HF}{r:Ent}{es es':Array MapEntry}{clk clk':Nat}(hb:s.h b=some (.map (Fu K m)))(hr:ι b=some r)(r1:r.sz=0)(r2:r.solid)
 (r3:w.heap[r.rb]?=some (.map es clk)) (hm:EntRelA H K m' es'.toList) (hbo:BornOk clk' (es'.toList.map (·.born))):
 HeapRel H ι (hput s.h b (.map (Fu K m'))) {w with heap:=w.heap.setIfInBounds r.rb (.map es' clk')}/\Step H ι s.h w H ι (hput s.h b (.map (Fu K m'))) {w with heap:=w.heap.setIfInBounds r.rb (.map es' clk')}:=by
 have hlt:r.rb<w.heap.size:=(Array.getElem?_eq_some_iff.1 r3).1;have:=hs.heap.upd (o':=.map (Fu K m')) (r':=r) (w':={w with heap:=w.heap.setIfInBounds r.rb (.map es' clk')}) hb rfl (.inr ⟨r,hr,rfl,.inl rfl⟩) (fun _=>.inr ⟨r,hr,rfl,r2,rfl⟩)
  (fun rb _ hne=>by
   have:rb≠r.rb:=hne r hr rfl r2;simp[Array.getElem?_setIfInBounds_ne (Ne.symm this)]) (by simp) rfl rfl
  ⟨r1,r2,es',clk',by simp[hlt],mapCellsA_iff.2 hm,hbo⟩
 rwa[show Dp ι b r=ι from by
  funext c
  by_cases hc:c=b
  . subst hc;rw[Bb,hr]
  . rw[C7 _ _ hc]]at this
theorem o_mapUpdateA(hT:Cn P T){t kt et:TypeId}{x y u:Operand}{b:Nat}{K:IntKind}{z:List Int}{m:HF}{q:AV}{i j j0:Ar}{n e0:Nat}(ho:o.op= .mapUpdate t x y u)(hd:o.dst=none)(hx:Ak e x=some (.map b))(hy:Ak e y=some (.agg (arrAV K z)))(hu:Ak e u=some q)(hp:q.isPure=true)
 (hb:h b=some (.map (Fu K m))) (hi:T t=some i) (hk:i.k= .map kt et) (hj:T kt=some j) (hjk:j.k= .array n e0) (hj0:T e0=some j0) (hjk0:j0.k= .int K) (hc:P.cellsOf e0=1) (hzl:z.length=n) (hm: ∀p∈m,p.1.length=n):OLoc P o e h [b] [(b,.map (Fu K (OQ z q m)))] none:=by
 intro H ι a w s Q hs h1 h2;have hx':Ak s.env x=some (.map b):=by rw[h1 x (by rw[ho];simp[Op.operands]),hx]
 have hy':Ak s.env y=some (.agg (arrAV K z)):=by rw[h1 y (by rw[ho];simp[Op.operands]),hy]
 have hu':Ak s.env u=some q:=by rw[h1 u (by rw[ho];simp[Op.operands]),hu]
 have hb':s.h b=some (.map (Fu K m)):=by rw[h2 b (by simp),hb]
 obtain⟨info,d,e1,e2,e3,e4,e5,e6⟩:=Aj (hT _ _ hi);obtain⟨info',d',e1',e2',e3',e4',e5',e6'⟩:=Aj (hT _ _ hj);obtain⟨info0,d0,e10,e20,e30,e40,e50,e60⟩:=Aj (hT _ _ hj0);have hd1:=G5 (P:=P) (d:=d) (e3▸hk);subst hd1;have hd':=HK (P:=P) (d:=d') (e3'▸hjk);subst hd';have hd0:=Gv (P:=P) (d:=d0) (e30▸hjk0);subst hd0;have hvy:=(Am hs hy').ints;obtain⟨r,hr,hr0,hvx⟩:=(Am hs hx').map_inv;obtain⟨r',hl,⟨r1,r2,es,clk,r3,r4,r6⟩,r5⟩:=hs.heap.obj b _ hb' rfl;rw[hr]at hl;cases hl;have hrv:=FR (ι':=AQ) hp (Am hs hu');have hE:=mapCellsA_iff.1 r4;obtain⟨rr,f1,f2⟩:=hE.find (w:=w) e2' e20 hc hzl hm 0;unfold Oper.wp;rcases f2 with⟨g1,rfl⟩ |⟨p,v,en,g1,rfl,g3,g4,g5⟩
 . have hrun:(execOp a.eval o).run P w= .ok .skip {w with heap:=w.heap.setIfInBounds r.rb (.map (es.push {key:=.agg (DW K z),val:=a.eval u,born:=clk}) (clk+1))}:=by
    simp[execOp,ho,Instr.mapUpdate,hvx,hvy,Al e2,MapKept.run_getObj_map r3,EW e2' e20 hc _ hzl,Fs e2',f1,MapKept.run_setObj_map _ r3]
   rw[hrun];obtain⟨u1,u2⟩:=Nw hs (es':=es.push {key:=.agg (DW K z),val:=a.eval u,born:=clk}) (clk':=clk+1) hb' hr r1 r2 r3 (m':=OQ z q m) (by rw[Array.toList_push];exact hE.set_new hrv clk g1) (by rw[Array.toList_push,List.map_append];exact r6.snoc);exact cC
 . have hrun:(execOp a.eval o).run P w= .ok .skip {w with heap:=w.heap.setIfInBounds r.rb (.map (es.modify p fun e=>{e with key:=.agg (DW K z),val:=a.eval u}) clk)}:=by
    have g3':es[p]?=some en:=by simpa using g3
    simp[execOp,ho,Instr.mapUpdate,hvx,hvy,Al e2,MapKept.run_getObj_map r3,EW e2' e20 hc _ hzl,Fs e2',f1,MapKept.run_setObj_map _ r3,g3',g4,OG]
   rw[hrun];obtain⟨u1,u2⟩:=Nw hs (es':=es.modify p fun e=>{e with key:=.agg (DW K z),val:=a.eval u}) (clk':=clk) hb' hr r1 r2 r3 (m':=OQ z q m) (by rw[Array.toList_modify];exact hE.set_old hrv g1) (by rw[LM];exact r6);exact cC
end
def D1(b:Nat)(es:List (List AV)):AV:=Q0 es.isEmpty b es
def Hw(sz:Nat)(es:List (List AV)):AObj:=K4 es.isEmpty sz es
def oh(b:Nat)(es:List (List AV)):AV:=bif es.isEmpty then .lst false []else .ref b es.length 0 es.length
def qy(es:List (List AV)):AObj:=bif es.isEmpty then .free else .row true 1 es
theorem L1{α:Type}(l:List α)(x:α):(l++[x]).isEmpty=false:=by cases l<;>rfl
theorem NG{α:Type}{l:List α}{k:Nat}(h:k<l.length):l.isEmpty=false:=by cases l with | nil=>simp at h | cons=>rfl
theorem GJ(b:Nat)(es:List (List AV))(x:List AV):D1 b (es++[x])= .ref b (es.length+1) 0 (es.length+1):=by
 simp[D1,L1,Q0]
theorem MG{b k:Nat}{es:List (List AV)}(h:k<es.length):D1 b es= .ref b es.length 0 es.length:=by simp[D1,NG h,Q0]
theorem Qv{sz k:Nat}{es:List (List AV)}(h:k<es.length):Hw sz es= .row true sz es:=by simp[Hw,NG h,K4]
theorem XK(f:Bool)(b:Nat)(es:List (List AV)):(Q0 f b es).cells=[Q0 f b es]:=by cases f<;>rfl
theorem Dh(b:Nat)(es:List (List AV)):(D1 b es).cells=[D1 b es]:=XK _ _ _
theorem Di(b:Nat)(es:List (List AV)):(D1 b es).cell1=true:=by unfold D1 Q0;cases es.isEmpty<;>rfl
theorem B8{k:Nat->Bool}{b:Nat}(es:List (List AV))(h:k b=true):(D1 b es).avoid k=true:=by unfold D1 Q0;cases es.isEmpty<;>simp[AV.avoid,AV.flat,h]
theorem Is{k:Nat->Bool}{b:Nat}(es:List (List AV))(h:k b=true):(oh b es).avoid k=true:=by unfold oh;cases es.isEmpty<;>simp[AV.avoid,AV.flat,h]
theorem CS{k:Nat->Bool}(sz:Nat)(es:List (List AV)):(Hw sz es).avoid k=true:=by unfold Hw K4;cases es.isEmpty<;>rfl
theorem OZ{k:Nat->Bool}(es:List (List AV)):(qy es).avoid k=true:=by unfold qy;cases es.isEmpty<;>rfl
section
variable {P : Program} {T : Nat -> Option Ar} {o : Oper} {e : As} {h : Ab}
theorem Ff(hT:Cn P T){t:TypeId}{x:Operand}{b:Nat}{es:List (List AV)}{i:Ar}{u:Nat}(ho:o.op= .call {callee:=.builtin .len,args:= #[x],argTypes:= #[t]})(hx:Ak e x=some (D1 b es))(hi:T t=some i)(hk:i.k= .slice u):QLoc P o e h [] (.int .i64 (es.length:Int)):=by
 unfold D1 Q0 at hx
 cases hf:es.isEmpty with
 | true=>rw[hf]at hx;exact ZM hT ho hx hi (by rw[hk];rfl) rfl
 | false=>rw[hf]at hx;exact ZM hT ho hx hi (by rw[hk];rfl) rfl
theorem HU(hT:Cn P T){t:TypeId}{x y:Operand}{b sz:Nat}{es:List (List AV)}{k:IntKind}{n:Int}{i j:Ar}{u:Nat}(ho:o.op= .indexAddr t x y)(hx:Ak e x=some (D1 b es))(hy:Ak e y=some (.int k n))
 (hi:T t=some i) (hk:i.k= .slice u) (hj:T u=some j) (hb:h b=some (Hw sz es)) (hsz:sz=j.size) (h0:0<=n) (hn:n<es.length):QLoc P o e h [b] (.ptr b es.length n.toNat 0):=by
 have hlt:n.toNat<es.length:=by omega
 rw[MG hlt]at hx;rw[Qv hlt]at hb;have:=Ac hT ho hx hy hi hk hj hb rfl hsz h0 hn;rwa[Nat.zero_add]at this
theorem o_store1(hT:Cn P T){t:TypeId}{x y:Operand}{b m k off:Nat}{p:Bool}{sz:Nat}{es:List (List AV)}{cs:List AV}{q:AV}{i:Ar}(ho:o.op= .store t x y)(hd:o.dst=none)(hx:Ak e x=some (.ptr b m k off))(hy:Ak e y=some q)(hi:T t=some i)(his:i.size=1)
 (hb:h b=some (.row p sz es)) (hm:m=es.length) (hk:es[k]?=some cs) (hq:q.cells=[q]) (hfit:off+1<=sz) (h1:q.cell1=true) (hp:p=true->q.isPure1=true):
 OLoc P o e h [b] [(b,.row p sz (es.set k (DZ cs off [q])))] none:=by
 have:=o_store hT ho hd hx hy hi hb hm hk (by rw[hq,his];rfl) (by rw[his];exact hfit) (by rw[hq];simp[h1]) (fun h=>by rw[hq];simp[hp h]);rwa[hq]at this
theorem o_append1J(hT:Cn P T){t t':TypeId}{x y:Operand}{i i' j:Ar}{u u':Nat}{ex2:Bool}{sz:Nat}{es:List (List AV)}{x0:List AV}{b:Nat}
 (ho:o.op= .call {callee:=.builtin .append,args:= #[x,y],argTypes:= #[t,t']}) (hx:Ak e x=some (D1 b es)) (hy:Ak e y=some (.lst ex2 [x0])) (hi:T t=some i) (hk:i.k= .slice u) (hj:T u=some j) (hi':T t'=some i') (hk':i'.k= .slice u')
 (hb:h b=some (Hw sz es)) (hsz:sz=j.size) (hz:j.zero.length=j.size) (hp:0<j.size)
 (hu: ∀cs∈es,cs.length=sz) (hpu: ∀cs∈es,cs.all AV.isPure1=true) (hu2:x0.length=sz) (hpure:x0.all AV.isPure1=true)
 (hby:(es.length+1)*j.bytes<=140737488355328) (hml:es.length+1<=maxLen):
 OLoc P o e h [b] [(b,Hw sz (es++[x0]))] (some (D1 b (es++[x0]))):=by
 have:=Pm (f:=es.isEmpty) hT b ho hx hy hi hk hj hi' hk' hb hsz hz hp hu hpu (by simpa using hu2) (by simpa using hpure) hby hml;have e1:(es.isEmpty&&[x0].isEmpty)=(es++[x0]).isEmpty:=by rw[L1];simp
 rw[e1]at this;exact this
end
theorem Cu{n:Nat}{e:As}{h:Ab}(b:Nat){sz:Nat}{es es':List (List AV)}(hb:h b=some (.row false sz es))(hl:es'.length=es.length)
 (hw: ∀(i:Nat) (cs cs':List AV),es[i]?=some cs->es'[i]?=some cs'->cs'.length=cs.length/\∀(j:Nat) (x y:AV),cs[j]?=some x->cs'[j]?=some y->(x.cell1=true->y.cell1=true)/\∀H ι v,Rel H ι x v->Rel H ι y v):Ghost ⟨n,e,h⟩ ⟨n,e,hput h b (.row false sz es')⟩:=fun H ι a w hs=>by
 obtain⟨r,hr,⟨r1,r2,r3,r4,r5,r6⟩,r7⟩:=hs.heap.obj b _ hb rfl;have hlput:Dp ι b r=ι:=by
  funext c
  by_cases hc:c=b
  . subst hc;rw[Bb,hr]
  . rw[C7 _ _ hc]
 have hget: ∀(i:Nat) (cs':List AV),es'[i]?=some cs'->∃cs,es[i]?=some cs:=fun i cs' hi=>by
  have:i<es'.length:=(List.getElem?_eq_some_iff.1 hi).1;exact⟨es[i]'(by omega),List.getElem?_eq_getElem (by omega)⟩
 have:=hs.heap.upd (o':=.row false sz es') (r':=r) (w':=w) hb rfl (.inr ⟨r,hr,rfl,.inl rfl⟩) (fun hsol=>.inr ⟨r,hr,rfl,hsol,rfl⟩) (fun _ _ _=>rfl) (Nat.le_refl _) rfl rfl
  ⟨r1,r2,by rw[hl];exact r3,by rw[hl];exact r4,fun i cs' hi=>by
   obtain⟨cs,hc⟩:=hget i cs' hi;rw[(hw i cs cs' hc hi).1];exact r5 i cs hc,fun hsol=>by
   obtain⟨c,T,c1,c2,c3,c4⟩:=r6 hsol;refine⟨c,T,c1,c2,fun i cs' hi=>?_,?_⟩
   . obtain⟨cs,hc⟩:=hget i cs' hi;rw[(hw i cs cs' hc hi).1];exact r5 i cs hc
   rw[hlput];intro i cs' j y hi hj;obtain⟨cs,hc⟩:=hget i cs' hi;obtain⟨w1,w2⟩:=hw i cs cs' hc hi;have hjlt:j<cs'.length:=(List.getElem?_eq_some_iff.1 hj).1;have hx:cs[j]?=some (cs[j]'(by omega)):=List.getElem?_eq_getElem (by omega);obtain⟨v,v1,v2,v3⟩:=c4 i cs j _ hc hx;obtain⟨g1,g2⟩:=w2 j _ y hx hj;exact⟨v,v1,g2 _ _ _ v2,g1 v3⟩⟩
 rw[hlput]at this;exact⟨H,ι,⟨hs.n,hs.d,hs.env,this.1⟩,this.2⟩
section
variable {P : Program} {T : Nat -> Option Ar} {o : Oper} {e : As} {h : Ab}
end
def Ox(sz:Nat)(es:List (List AV)):AObj:=bif es.isEmpty then .free else .row false sz es
section
variable {P : Program} {T : Nat -> Option Ar} {o : Oper} {e : As} {h : Ab}
theorem Xw(hT:Cn P T){t t':TypeId}{x y:Operand}{i i' j:Ar}{u u':Nat}{es2:List (List AV)}{q:AV}{R:List Nat}(b:Nat)
 (ho:o.op= .call {callee:=.builtin .append,args:= #[x,y],argTypes:= #[t,t']}) (hx:Ak e x=some (.lst true [])) (hy:Ak e y=some q) (hi:T t=some i) (hk:i.k= .slice u) (hj:T u=some j) (hi':T t'=some i') (hk':i'.k= .slice u')
 (hb:h b=some .free) (hz:j.zero.length=j.size) (hp:0<j.size) (hsrc:SrcOf h q R es2) (hu2: ∀cs∈es2,cs.length=j.size) (hne:0<es2.length)
 (hby:es2.length*j.bytes<=140737488355328) (hml:es2.length<=maxLen):
 OLoc P o e h (b::R) [(b,.row false j.size es2)] (some (.ref b es2.length 0 es2.length)):=by
 refine DL hb (by simp) hp fun H ι a w s hs g1 g2=>?_
 have hx':Ak s.env x=some (.lst true []):=by rw[g1 x HC,hx]
 have hy':Ak s.env y=some q:=by rw[g1 y HC,hy]
 have hsrc':=hsrc.agree (h':=s.h) (fun c hc=>g2 c (by simp[hc]));obtain⟨info,d,e1,e2,e3,e4,e5,e6⟩:=Aj (hT _ _ hi);obtain⟨infou,du,f1,f2,f3,f4,f5,f6⟩:=Aj (hT _ _ hj);obtain⟨info',d',e1',e2',e3',e4',e5',e6'⟩:=Aj (hT _ _ hi');have hd:=Bn (P:=P) (d:=d) (e3▸hk);subst hd;have hd':=Bn (P:=P) (d:=d') (e3'▸hk');subst hd';obtain⟨z,hz1,hz2⟩:=DM f6 hz hp;have hzl:z.cells.size=j.size:=by rw[<-hz];simpa using(Dl (H:=H) (ι:=AQ) hz2).1.symm
 have hvx:=Am hs hx';have hvy:=Am hs hy';generalize hva:a.eval x=va at hvx;generalize hvb:a.eval y=vb at hvy;have hexec: ∀(v:Value) (w':World),(Builtin.append_ #[t,t'] o.type #[va,vb]).run P w= .ok v w'->(execOp a.eval o).run P w= .ok (.value v) w':=fun v w' hrun=>by
  exact Wy
 obtain⟨news,hsrcw,hnews⟩:=KF hs.heap hsrc' hvy e2' hp hu2 w rfl;rw[<-f4]at hsrcw;have hnl:news.length=es2.length*j.size:=by rw[hsrcw.newsLen,f4]
 have h63:((0+es2.length:Nat):Int)<=9223372036854775807:=by
  have:=hml;simp only[maxLen]at this;omega
 obtain⟨base,hv,hold⟩: ∃(base:Option Addr),va= .slice base 0 0/\(Builtin.firstCells infou.size 0 (.slice base 0 0)).run P w.drew= .ok ([]:List Value).toArray w.drew:=by
  rcases hvx.lst_inv with⟨_,ad,cap,rfl,h1,h2,h3,h4⟩ |⟨hne,_⟩
  . have:=h1 rfl;subst this;refine⟨ad,rfl,?_⟩
    cases ad<;>simp[Builtin.firstCells,loadCells,loadCellsFrom]
  . exact absurd rfl hne
 exact j5
theorem Js(hT:Cn P T){t t':TypeId}{x y:Operand}{i i' j:Ar}{u u':Nat}{es:List (List AV)}{x0:List AV}{q:AV}{R:List Nat}{b sz:Nat}
 (ho:o.op= .call {callee:=.builtin .append,args:= #[x,y],argTypes:= #[t,t']}) (hx:Ak e x=some (D1 b es)) (hy:Ak e y=some q) (hi:T t=some i) (hk:i.k= .slice u) (hj:T u=some j) (hi':T t'=some i') (hk':i'.k= .slice u')
 (hb:h b=some (Ox sz es)) (hsz:sz=j.size) (hz:j.zero.length=j.size) (hp:0<j.size) (hsrc:SrcOf h q R [x0]) (hu2:x0.length=sz)
 (hby:(es.length+1)*j.bytes<=140737488355328) (hml:es.length+1<=maxLen):
 OLoc P o e h (b::R) [(b,.row false sz (es++[x0]))] (some (D1 b (es++[x0]))):=by
 subst hsz;rw[GJ]
 cases hes:es.isEmpty with
 | true=>
  have e1:es=[]:=List.isEmpty_iff.1 hes;subst e1;exact Xw hT b ho hx hy hi hk hj hi' hk' hb hz hp hsrc (by intro cs hc;simp at hc;rw[hc];exact hu2) (by simp) (by simpa using hby) (by simpa using hml)
 | false=>
  have ex:D1 b es= .ref b es.length 0 es.length:=by simp[D1,hes,Q0]
  have eo:Ox j.size es= .row false j.size es:=by simp[Ox,hes]
  rw[ex]at hx;rw[eo]at hb;exact o_append hT ho hx hy hi hk hj hi' hk' hb rfl rfl hz hp hsrc (by intro cs hc;simp at hc;rw[hc];exact hu2) (by intro h;cases h) (m:=1) rfl hby hml
end
def GV(base:Ab)(F:Nat->AObj):Ab:=fun c=>bif Nat.ble 16 c then some (F (c-16))else base c
theorem Ao(base:Ab)(F:Nat->AObj)(x:Nat):GV base F (x+16)=some (F x):=by
 have:Nat.ble 16 (x+16)=true:=by rw[Nat.ble_eq];omega
 simp only[GV,this,cond_true,Nat.add_sub_cancel]
theorem Ia(base:Ab)(F:Nat->AObj){c:Nat}(h:c<16):GV base F c=base c:=by
 have:Nat.ble 16 c=false:=by rw[<-Bool.not_eq_true,Nat.ble_eq];omega
 simp only[GV,this,cond_false]
def TV:List AObj->Nat->AObj
  | [],_=>.free
  | o::_,0=>o
  | _::L,n+1=>TV L n
def nb(L:List AObj):Ab:=fun c=>some (TV L c)
def kf(k0:Nat):Nat->Bool:=fun c=>Nat.blt c k0||Nat.ble 16 c
theorem fF{k0 c:Nat}(h:c<k0):kf k0 c=true:=by
 have:Nat.blt c k0=true:=by rw[Nat.blt_eq];exact h
 simp[kf,this]
theorem SZ(k0 x:Nat):kf k0 (x+16)=true:=by
 have:Nat.ble 16 (x+16)=true:=by rw[Nat.ble_eq];omega
 simp[kf,this]
theorem aH{k0 c:Nat}(h:kf k0 c=false):k0<=c/\c<16:=by
 simp only[kf,Bool.or_eq_false_iff]at h;obtain⟨h1,h2⟩:=h;rw[<-Bool.not_eq_true,Nat.blt_eq]at h1;rw[<-Bool.not_eq_true,Nat.ble_eq]at h2;omega
theorem nth_out: ∀{L:List AObj} {c:Nat},L.length<=c->TV L c= .free
 | [],_,_=>rfl
 | _::L,0,h=>absurd h (by simp)
 | _::L,c+1,h=>nth_out (L:=L) (by simpa using h)
def LowAt(h:Ab)(k:Nat->Bool):Nat->List AObj->Prop
  | _,[]=>True
  | i,o::L=>(h i=some o/\o.avoid k=true)/\LowAt h k (i+1) L
theorem LowAt.get{h:Ab}{k:Nat->Bool}: ∀{L:List AObj} {i c:Nat},LowAt h k i L->c<L.length->h (i+c)=some (TV L c)/\(TV L c).avoid k=true
 | [],_,_,_,hc=>absurd hc (by simp)
 | o::L,i,0,hl,_=>hl.1
 | o::L,i,c+1,hl,hc=>by
  have:=LowAt.get (L:=L) (i:=i+1) (c:=c) hl.2 (by simpa using hc);rw[show i+(c+1)=i+1+c by omega];exact this
theorem Bz{L:List AObj}{F:Nat->AObj}{k0:Nat}(hk:L.length=k0){c:Nat}(h:kf k0 c=false):GV (nb L) F c=some .free:=by
 obtain⟨h1,h2⟩:=aH h;rw[Ia _ _ h2];show some (TV L c)=_;rw[nth_out (by omega)]
theorem Bg{L:List AObj}{F:Nat->AObj}{k0:Nat}{h:Ab}(hk:L.length=k0)(h1:LowAt h (kf k0) 0 L)(h2: ∀x,h (x+16)=some (F x))(h3: ∀x,(F x).avoid (kf k0)=true):HDropK (kf k0) (GV (nb L) F) h:=by
 intro c o ho
 cases hc:kf k0 c with
 | false=>
  rw[Bz hk hc]at ho
  cases ho
  exact .inr ⟨rfl,rfl⟩
 | true=>
  by_cases h16:16<=c
  . obtain⟨x,rfl⟩: ∃x,c=x+16:=⟨c-16,by omega⟩
    rw[Ao]at ho;cases ho;exact .inl ⟨h2 x,fun _=>⟨rfl,h3 x⟩⟩
  . have hlt:c<k0:=by
     simp only[kf,Bool.or_eq_true,Nat.blt_eq,Nat.ble_eq]at hc;omega
    rw[Ia _ _ (by omega)]at ho;have ho':some (TV L c)=some o:=ho
    cases ho'
    have:=h1.get (c:=c) (by omega);rw[Nat.zero_add]at this;exact .inl ⟨this.1,fun _=>⟨rfl,this.2⟩⟩
theorem BQ{L:List AObj}{F:Nat->AObj}{k0:Nat}{h:Ab}(hk:L.length=k0)(h1:LowAt h (kf k0) 0 L)(h2: ∀x,h (x+16)=some (F x))(h3: ∀c,k0<=c->c<16->h c=some .free):HSub (GV (nb L) F) h:=by
 intro c o ho
 by_cases h16:16<=c
 . obtain⟨x,rfl⟩: ∃x,c=x+16:=⟨c-16,by omega⟩
   rw[Ao]at ho;cases ho;exact h2 x
 . rw[Ia _ _ (by omega)]at ho;have ho':some (TV L c)=some o:=ho
   cases ho'
   by_cases hlt:c<k0
   . have:=h1.get (c:=c) (by omega);rw[Nat.zero_add]at this;exact this.1
   . rw[nth_out (by omega)];exact h3 c (by omega) (by omega)
theorem Dt{h:Ab}{F:Nat->AObj}(hh: ∀x,h (x+16)=some (F x))(z:Nat)(o:AObj): ∀x,hput h (z+16) o (x+16)=some (if x=z then o else F x):=fun x=>by
 by_cases hx:x=z
 . subst hx;rw[Ap,if_pos rfl]
 . rw[AF _ _ (by omega),if_neg hx];exact hh x
def A3(φ:Nat->Nat)(l:List Nat)(m:List Nat):Prop:=∀b∈l,φ b∈m
def MM(φ:Nat->Nat):List (List Nat×List Nat)->List (List Nat×List Nat)->Prop
  | [],[]=>True
  | s::S,m::M=>A3 φ s.1 m.1/\A3 φ s.2 m.2/\MM φ S M
  | _,_=>False
theorem Ji{φ:Nat->Nat}: ∀{S M:List (List Nat×List Nat)} {i:Nat} {s:List Nat×List Nat},MM φ S M->S[i]?=some s->∃m,M[i]?=some m/\A3 φ s.1 m.1/\A3 φ s.2 m.2
 | [],_,_,_,_,h=>by simp at h
 | _::_,[],_,_,hs,_=>hs.elim
 | s::S,m::M,0,_,hs,h=>by simp at h;subst h;exact⟨m,rfl,hs.1,hs.2.1⟩
 | s::S,m::M,i+1,t,hs,h=>by
  simp only[List.getElem?_cons_succ]at h |-;exact Ji hs.2.2 h
theorem HN{φ:Nat->Nat}: ∀{S M:List (List Nat×List Nat)} {i:Nat},MM φ S M->S[i]?=none->M[i]?=none
 | [],[],_,_,_=>by simp
 | [],_::_,_,hs,_=>hs.elim
 | _::_,[],_,hs,_=>hs.elim
 | s::S,m::M,0,_,h=>by simp at h
 | s::S,m::M,i+1,hs,h=>by
  simp only[List.getElem?_cons_succ]at h |-;exact HN hs.2.2 h
theorem Yt{φ:Nat->Nat}{x y x' y':List Nat×List Nat}(hx1:A3 φ x.1 x'.1)(hx2:A3 φ x.2 x'.2)(hy1:A3 φ y.1 y'.1)(hy2:A3 φ y.2 y'.2)(h:Co x' y'=true):Co x y=true:=by
 simp only[Co,Bool.and_eq_true,List.all_eq_true,Bool.not_eq_true',List.contains_eq_mem,decide_eq_false_iff_not]at h |-;exact⟨fun b hb=>⟨fun hc=>(h.1 (φ b) (hx2 b hb)).1 (hy1 b hc),fun hc=>(h.1 (φ b) (hx2 b hb)).2 (hy2 b hc)⟩,fun b hb hc=>h.2 (φ b) (hy2 b hb) (hx1 b hc)⟩
theorem eW{ops:Array Oper}(φ:Nat->Nat){S M:List (List Nat×List Nat)}(hs:MM φ S M)(h:cA ops M=true):cA ops S=true:=by
 unfold cA at h |-;rw[List.all_eq_true]at h |-;intro j hj;have hjj:=h j hj
 cases ho:ops[j]? with
 | none=>rw[ho]at hjj;cases hjj
 | some oj=>
  rw[ho]at hjj
  cases hsj:S[j]? with
  | none=>rw[HN hs hsj]at hjj;cases hjj
  | some sj=>
   obtain⟨mj,hmj,c1,c2⟩:=Ji hs hsj;rw[hmj]at hjj;simp only[Bool.and_eq_true]at hjj |-;refine⟨hjj.1,?_⟩;rw[List.all_eq_true];intro i hi;have hii:=List.all_eq_true.1 hjj.2 i hi
   cases hoi:ops[i]? with
   | none=>rw[hoi]at hii;cases hii
   | some oi=>
    rw[hoi]at hii
    cases hsi:S[i]? with
    | none=>rw[HN hs hsi]at hii;cases hii
    | some si=>
     obtain⟨mi,hmi,d1,d2⟩:=Ji hs hsi;rw[hmi]at hii;simp only[Bool.or_eq_true,Bool.and_eq_true]at hii |-;rcases hii with hii | hii
     . exact .inl hii
     . exact .inr ⟨hii.1,Yt d1 d2 c1 c2 hii.2⟩
theorem ES{P:Program}{ops:Array Oper}{n:Nat}{e:As}{h:Ab}{acc:List (List Nat×List Nat)}{K:Ai->Prop}(φ:Nat->Nat)(M:List (List Nat×List Nat))(hs:MM φ acc M)(hc:cA ops M=true)(hk:K ⟨n,e,h⟩):DOps P ops n [] e h acc K:=DOps.nil (eW φ hs hc) hk
def nO(f:Nat->Nat)(o:Nat->AObj)(n:Nat):List (Nat×AObj):=(List.range n).map fun i=>(f i,o i)
theorem Ct{f:Nat->Nat}{o:Nat->AObj}{n b:Nat}(h:Ab)(hb: ∀i,i<n->b≠f i):hputs h (nO f o n) b=h b:=by
 refine PL fun p hp=>?_
 unfold nO at hp;simp only[List.mem_map,List.mem_range]at hp;obtain⟨i,hi,rfl⟩:=hp;exact fun e=>hb i hi e.symm
theorem J5(z:Nat):mem [z] z=true:=mem_iff.2 (by simp)
theorem Og{a b:Bool}(ha:a=true)(hb:b=true):(a&&b)=true:=by rw[ha,hb];rfl
theorem KV{P:Program}{o:Oper}{e:As}{h:Ab}{g:FuncId}{fn:Func}{args:Array Operand}{tys:Array TypeId}{xs:List AV}{r:AV}(z:Nat){q:AObj}
 (ho:o.op= .call {callee:=.value (.func g),args:=args,argTypes:=tys}) (hf:P.funcs[g]?=some fn) (hn:(fn.name== "runtime.NumGoroutine")=false) (hb:fn.body.isSome=true) (hx:AR e args.toList=some xs)
 (hxa:xs.all (AV.avoid (mem [z]))=true) (hz:h z=some q) (hq:q.avoid (mem [z])=true) (hra:r.avoid (mem [z])=true)
 (hcall:ACall P g xs (hput hNew z q) (fun r' h'=>r'=r/\HSub (hput hNone z q) h')):OLoc P o e h [z] [] (some r):=
 KW (hc:=hput hNew z q) (hw:=hput hNone z q) [z] [] ho hf hn hb hx hxa ⟨⟨q,hz,hq⟩,trivial⟩ rfl (Bq hz (Ce h)) ⟨⟨q,Ap _ _ _,hz,hq⟩,trivial⟩ hra hcall
section
variable {P : Program} {T : Nat -> Option Ar} {o : Oper} {e : As} {h : Ab}
theorem VP(hT:Cn P T){t:TypeId}{x:Operand}{f:Nat}{cs:List AV}{r:AV}{i j:Ar}{fs:List (Nat×Nat)}{off u:Nat}(ho:o.op= .field t x f)(hx:Ak e x=some (.agg cs))(hi:T t=some i)(hk:i.k= .struct fs)
 (hf:fs[f]?=some (off,u)) (hj:T u=some j) (hc:j.k.isCell=true) (hr:cs[off]?=some r):QLoc P o e h [] r:=by
 intro H ι a w s hs h1 h2;have hx':Ak s.env x=some (.agg cs):=by rw[h1 x (by rw[ho];simp[Op.operands]),hx]
 obtain⟨info,d,e1,e2,e3,e4,e5,e6⟩:=Aj (hT _ _ hi);obtain⟨info',d',f1,f2,f3,f4,f5,f6⟩:=Aj (hT _ _ hj);obtain⟨A,rfl,rfl,hz⟩:=EC (P:=P) (d:=d) (e3▸hk);rw[List.getElem?_map,Array.getElem?_toList]at hf
 cases ef:A[f]? with
 | none=>rw[ef]at hf;cases hf
 | some g=>
  rw[ef]at hf;simp only[Option.map_some,Option.some.injEq,Prod.mk.injEq]at hf;obtain⟨rfl,rfl⟩:=hf;obtain⟨us,hv,hl,hrel⟩:=(Am hs hx').agg_inv;have hlt:g.offset<us.size:=by rw[<-hl];exact(List.getElem?_eq_some_iff.1 hr).1
  have hagg:NH d'=false:=by
   have:=Vp (P:=P) (d:=d') (by rw[<-f3];exact hc)
   cases d'<;>first | rfl | exact absurd rfl (this.1 _) | exact absurd rfl (this.2 _ _)
  refine⟨us[g.offset],hrel g.offset r _ hr (Array.getElem?_eq_getElem hlt),?_⟩;simp only[execOp,ho,Instr.field,hv,Sem.run_bind,Sem.run_pure,Result.andThen_ok,Al e2,ef,asAgg,part,Iy f2,hagg,Bool.false_eq_true,if_false,Array.getElem?_eq_getElem hlt]
end
def VU(h:Ab):AV->Option (List Nat×List AV)
  | .loc cs=>some ([],cs)
  | .ptr b n i o=>match h b with
    | some (.row p sz es)=>match Nat.beq n es.length,es[i]? with
      | true,some cs=>some ([b],cs.drop o)
      | _,_=>none
    | _=>none
  | _=>none
theorem Nb{h:Ab}{p:AV}{R:List Nat}{cs:List AV}(e:VU h p=some (R,cs)):PtsTo h p R cs:=by
 unfold VU at e;split at e
 . simp only[Option.some.injEq,Prod.mk.injEq]at e;obtain⟨rfl,rfl⟩:=e;exact .loc _
 . split at e
   . rename_i b n i o p sz es hb;split at e
     . rename_i cs h1 h2;simp only[Option.some.injEq,Prod.mk.injEq]at e;obtain⟨rfl,rfl⟩:=e;exact .ptr _ _ _ _ _ _ _ _ hb (Nat.eq_of_beq_eq_true h1) h2
     . cases e
   . cases e
 . cases e
def nz(T:Nat->Option Ar)(o:Op)(e:As)(h:Ab):Option (List Nat×AV):=
  match o with
  | .move x=>match Ak e x with
    | some p=>some ([],p)
    | none=>none
  | .assign x=>match Ak e x with
    | some p=>some ([],p)
    | none=>none
  | .load t x=>match Ak e x,T t with
    | some p,some i=>match VU h p with
      | some (R,cs)=>match H4 i cs with
        | some r=>some (R,r)
        | none=>none
      | none=>none
    | _,_=>none
  | .fieldAddr t x f=>match Ak e x,T t with
    | some p,some i=>match i.k with
      | .struct fs=>match fs[f]? with
        | some (off,u)=>match H3 p off with
          | some r=>some ([],r)
          | none=>none
        | none=>none
      | _=>none
    | _,_=>none
  | .binOp op t x y t'=>match Ak e x,Ak e y with
    | some p,some q=>match AX op p q with
      | some r=>some ([],r)
      | none=>none
    | _,_=>none
  | .unOp .not t x=>match Ak e x with
    | some (.bool b)=>some ([],.bool (!b))
    | _=>none
  | .pick c x y=>match Ak e c with
    | some (.bool true)=>match Ak e x with
      | some p=>some ([],p)
      | none=>none
    | some (.bool false)=>match Ak e y with
      | some p=>some ([],p)
      | none=>none
    | _=>none
  | .extract x k=>match Ak e x with
    | some (.tup vs)=>match vs[k]? with
      | some r=>some ([],r)
      | none=>none
    | _=>none
  | .nilCheck x=>match Ak e x with
    | some p=>match(match p with | .loc _ | .ptr .. =>true | _=>false)with
      | true=>some ([],p)
      | false=>none
    | none=>none
  | .field t x f=>match Ak e x,T t with
    | some (.agg cs),some i=>match i.k with
      | .struct fs=>match fs[f]? with
        | some (off,u)=>match T u with
          | some j=>match j.k.isCell,cs[off]? with
            | true,some r=>some ([],r)
            | _,_=>none
          | none=>none
        | none=>none
      | _=>none
    | _,_=>none
  | .convert t u x=>match Ak e x,T t,T u with
    | some (.int k' n),some i,some j=>match j.k with
      | .int k=>some ([],.int k (k.wrap n))
      | _=>none
    | _,_,_=>none
  | .call ⟨.builtin .len,args,tys⟩=>match args.toList,tys.toList with
    | [x],[t]=>match Ak e x,T t with
      | some p,some i=>match(match p with | .str _=>(match i.k with | .string=>true | _=>false) | _=>(match i.k with | .slice _=>true | _=>false)),NC p with
        | true,some n=>some ([],.int .i64 n)
        | _,_=>none
      | _,_=>none
    | _,_=>none
  | _=>none
theorem Wn{α:Type}{a:Array α}{x:α}(h:a.toList=[x]):a= #[x]:=Array.ext' h
section
variable {P : Program} {T : Nat -> Option Ar} {o : Oper} {e : As} {h : Ab} {R : List Nat} {r : AV}
theorem qEv_spec(hT:Cn P T)(hq:nz T o.op e h=some (R,r)):QLoc P o e h R r:=by
 unfold nz at hq;split at hq
 . rename_i x ho;split at hq
   . rename_i p hp;simp only[Option.some.injEq,Prod.mk.injEq]at hq;obtain⟨rfl,rfl⟩:=hq;exact KP (.inl ho) hp
   . cases hq
 . rename_i x ho;split at hq
   . rename_i p hp;simp only[Option.some.injEq,Prod.mk.injEq]at hq;obtain⟨rfl,rfl⟩:=hq;exact KP (.inr ho) hp
   . cases hq
 . rename_i t x ho;split at hq
   . rename_i p i hp hi;split at hq
     . rename_i R' cs hc;split at hq
       . rename_i r' hr;simp only[Option.some.injEq,Prod.mk.injEq]at hq;obtain⟨rfl,rfl⟩:=hq;exact AA hT ho hp hi (Nb hc) hr
       . cases hq
     . cases hq
   . cases hq
 . rename_i t x f ho;split at hq
   . rename_i p i hp hi;split at hq
     . rename_i fs hk;split at hq
       . rename_i off u hf;split at hq
         . rename_i r' hr;simp only[Option.some.injEq,Prod.mk.injEq]at hq;obtain⟨rfl,rfl⟩:=hq;exact HV hT ho hp hi hk hf hr
         . cases hq
       . cases hq
     . cases hq
   . cases hq
 . rename_i op t x y t' ho;split at hq
   . rename_i p q hp hq';split at hq
     . rename_i r' hr;simp only[Option.some.injEq,Prod.mk.injEq]at hq;obtain⟨rfl,rfl⟩:=hq;exact Bx ho hp hq' hr
     . cases hq
   . cases hq
 . rename_i t x ho;split at hq
   . rename_i b hp;simp only[Option.some.injEq,Prod.mk.injEq]at hq;obtain⟨rfl,rfl⟩:=hq;exact M5 ho hp
   . cases hq
 . rename_i c x y ho;split at hq
   . rename_i hc;split at hq
     . rename_i p hp;simp only[Option.some.injEq,Prod.mk.injEq]at hq;obtain⟨rfl,rfl⟩:=hq;exact E3 true ho hc rfl hp
     . cases hq
   . rename_i hc;split at hq
     . rename_i p hp;simp only[Option.some.injEq,Prod.mk.injEq]at hq;obtain⟨rfl,rfl⟩:=hq;exact Ek false ho hc rfl hp
     . cases hq
   . cases hq
 . rename_i x k ho;split at hq
   . rename_i vs hp;split at hq
     . rename_i r' hr;simp only[Option.some.injEq,Prod.mk.injEq]at hq;obtain⟨rfl,rfl⟩:=hq;exact KR ho hp hr
     . cases hq
   . cases hq
 . rename_i x ho;split at hq
   . rename_i p hp;split at hq
     . rename_i hc;simp only[Option.some.injEq,Prod.mk.injEq]at hq;obtain⟨rfl,rfl⟩:=hq;exact Uq ho hp (by cases p<;>first | rfl | cases hc)
     . cases hq
   . cases hq
 . rename_i t x f ho;split at hq
   . rename_i cs i hp hi;split at hq
     . rename_i fs hk;split at hq
       . rename_i off u hf;split at hq
         . rename_i j hj;split at hq
           . rename_i r' hc hr;simp only[Option.some.injEq,Prod.mk.injEq]at hq;obtain⟨rfl,rfl⟩:=hq;exact VP hT ho hp hi hk hf hj hc hr
           . cases hq
         . cases hq
       . cases hq
     . cases hq
   . cases hq
 . rename_i t u x ho;split at hq
   . rename_i k' n i j hp hi hj;split at hq
     . rename_i k hk;simp only[Option.some.injEq,Prod.mk.injEq]at hq;obtain⟨rfl,rfl⟩:=hq;exact Xk hT ho hp hi hj hk
     . cases hq
   . cases hq
 . rename_i args tys ho;split at hq
   . rename_i x t ha ht;split at hq
     . rename_i p i hp hi;split at hq
       . rename_i n hk hn;simp only[Option.some.injEq,Prod.mk.injEq]at hq;obtain⟨rfl,rfl⟩:=hq;exact ZM hT (ho.trans (by rw[Wn ha,Wn ht])) hp hi (by cases p<;>exact hk) hn
       . cases hq
     . cases hq
   . cases hq
 . cases hq
end
def ZN(T:Nat->Option Ar)(ops:Array Oper)(n:Nat):Nat->List Oper->As->Ab->Option (List Oper×As)
  | 0,l,e,_=>some (l,e)
  | k+1,o::l,e,h=>match o.dst with
    | some d=>match Nat.blt d n,AJ ops o e with
      | true,some true=>match nz T o.op e h with
        | some (_,r)=>ZN T ops n k l (Aa e d r) h
        | none=>none
      | true,some false=>ZN T ops n k l (Aa e d (.tup [])) h
      | _,_=>none
    | none=>none
  | _+1,[],_,_=>none
section
variable {P : Program} {T : Nat -> Option Ar} {ops : Array Oper} {n : Nat} {h : Ab} {K : Ai -> Prop}
theorem aQ(hT:Cn P T): ∀(k:Nat) {l l':List Oper} {e e':As},ZN T ops n k l e h=some (l',e')->AOps P ops l' ⟨n,e',h⟩ K->AOps P ops l ⟨n,e,h⟩ K
 | 0,l,l',e,e',hq,hr=>by
  simp only[ZN,Option.some.injEq,Prod.mk.injEq]at hq;obtain⟨rfl,rfl⟩:=hq;exact hr
 | k+1,[],_,_,_,hq,_=>by cases hq
 | k+1,o::l,l',e,e',hq,hr=>by
  unfold ZN at hq;split at hq
  . rename_i d hd;split at hq
    . rename_i hb hg;split at hq
      . rename_i R r hv;exact AOps.s d hd hb hg (qEv_spec hT hv) (aQ hT k hq hr)
      . cases hq
    . rename_i hb hg;exact AOps.k d hd hb hg (aQ hT k hq hr)
    . cases hq
  . cases hq
end
def Sr(T:Nat->Option Ar)(ops:Array Oper)(n:Nat):Nat->List Oper->As->Ab->List (List Nat×List Nat)->Option (List Oper×As×List (List Nat×List Nat))
  | 0,l,e,_,acc=>some (l,e,acc)
  | k+1,o::l,e,h,acc=>match o.dst with
    | some d=>match Nat.blt d n,AJ ops o e with
      | true,some true=>match nz T o.op e h with
        | some (R,r)=>Sr T ops n k l (Aa e d r) h (acc++[(R,[])])
        | none=>none
      | true,some false=>Sr T ops n k l (Aa e d (.tup [])) h (acc++[([],[])])
      | _,_=>none
    | none=>none
  | _+1,[],_,_,_=>none
section
variable {P : Program} {T : Nat -> Option Ar} {ops : Array Oper} {n : Nat} {h : Ab} {K : Ai -> Prop}
theorem dQ(hT:Cn P T): ∀(k:Nat) {l l':List Oper} {e e':As} {acc acc':List (List Nat×List Nat)},Sr T ops n k l e h acc=some (l',e',acc')->DOps P ops n l' e' h acc' K->DOps P ops n l e h acc K
 | 0,l,l',e,e',acc,acc',hq,hr=>by
  simp only[Sr,Option.some.injEq,Prod.mk.injEq]at hq;obtain⟨rfl,rfl,rfl⟩:=hq;exact hr
 | k+1,[],_,_,_,_,_,hq,_=>by cases hq
 | k+1,o::l,l',e,e',acc,acc',hq,hr=>by
  unfold Sr at hq;split at hq
  . rename_i d hd;split at hq
    . rename_i hb hg;split at hq
      . rename_i R r hv;exact DOps.s d hd hb hg (qEv_spec hT hv) (dQ hT k hq hr)
      . cases hq
    . rename_i hb hg;exact Ve d hd hb hg (dQ hT k hq hr)
    . cases hq
  . cases hq
end
section
variable {P : Program} {T : Nat -> Option Ar} {ops : Array Oper} {rest : List Oper} {n : Nat} {e : As} {h : Ab} {K : Ai -> Prop} {acc : List (List Nat × List Nat)} {d : Nat} {t ty : TypeId} {ps : String} {af : Array Edge} {x y : Operand}
theorem wK{op:Op}{g:Nat×Bool}(hr:AOps P ops rest ⟨n,Aa e d (.tup []),h⟩ K)(hb:Nat.blt d n=true:=by exact rfl)(hg:AJ ops ⟨some d,op,ty,ps,af,some g⟩ e=some false:=by exact rfl):AOps P ops (⟨some d,op,ty,ps,af,some g⟩::rest) ⟨n,e,h⟩ K:=ak d hr rfl hb hg
theorem wS{b m k off sz:Nat}{p:Bool}{es:List (List AV)}{cs:List AV}{q:AV}{i:Ar}(hT:Cn P T)(hr:AOps P ops rest ⟨n,e,hputs h [(b,.row p sz (es.set k (DZ cs off q.cells)))]⟩ K)(hx:Ak e x=some (.ptr b m k off):=by exact rfl)(hy:Ak e y=some q:=by exact rfl)(hi:T t=some i:=by exact rfl)
 (hb:h b=some (.row p sz es):=by exact rfl) (hm:m=es.length:=by exact rfl) (hk:es[k]?=some cs:=by exact rfl) (hq:q.cells.length=i.size:=by exact rfl) (hfit:off+i.size<=sz:=by decide) (h1:q.cells.all AV.cell1=true:=by exact rfl) (hp:p=true->q.cells.all AV.isPure1=true:=by first | exact fun _=>rfl |(intro h;cases h)):
 AOps P ops (⟨none,.store t x y,ty,ps,af,none⟩::rest) ⟨n,e,h⟩ K:=AOps.w rfl rfl (o_store hT rfl rfl hx hy hi hb hm hk hq hfit h1 hp) hr
theorem vS{b m k off sz:Nat}{p:Bool}{es:List (List AV)}{cs:List AV}{q:AV}{i:Ar}(hT:Cn P T)(hr:DOps P ops n rest e (hputs h [(b,.row p sz (es.set k (DZ cs off q.cells)))]) (acc++[([b],[b])]) K)(hx:Ak e x=some (.ptr b m k off):=by exact rfl)(hy:Ak e y=some q:=by exact rfl)(hi:T t=some i:=by exact rfl)
 (hb:h b=some (.row p sz es):=by exact rfl) (hm:m=es.length:=by exact rfl) (hk:es[k]?=some cs:=by exact rfl) (hq:q.cells.length=i.size:=by exact rfl) (hfit:off+i.size<=sz:=by decide) (h1:q.cells.all AV.cell1=true:=by exact rfl) (hp:p=true->q.cells.all AV.isPure1=true:=by first | exact fun _=>rfl |(intro h;cases h)):
 DOps P ops n (⟨none,.store t x y,ty,ps,af,none⟩::rest) e h acc K:=DOps.w rfl rfl (o_store hT rfl rfl hx hy hi hb hm hk hq hfit h1 hp) hr
end
inductive Gs:Nat->Prop
  | mk (n:Nat):Gs n
theorem nU{n:Nat}(_:Gs (n+1)):Gs n:=.mk n
theorem wk(n:Nat){p q:Prop}(k:q)(w:Gs n->q->p:=by
 intro g_ k_;repeat(replace g_:=nU g_;first | refine aQ Ah 1 rfl ?_ | refine an ?_ | refine asq ?_ | refine YE ?_ | refine act ?_ | refine acf ?_ | refine fa ?_ | refine wK ?_ | refine Ge ?_ | refine dQ Ah 1 rfl ?_ | refine wS Ah ?_ | refine DOps.nil (by kernel_rfl) ?_ | refine TR mix ?_ | refine AGo.block ?_ | refine AGo.exit ?_ | refine vS Ah ?_ | refine aq _ (QL Ah rfl rfl rfl rfl rfl (by decide) rfl rfl rfl) ?_ | refine dq _ (QL Ah rfl rfl rfl rfl rfl (by decide) rfl rfl rfl) ?_ | refine ak _ ?_ | refine dk _ ?_)
 exact k_):p:=w (.mk n) k
end Go.Proofs.YtbbfelelocccmaaGreat.Sv
namespace Go.Proofs.YtbbfelelocccmaaGreat.Sv
open Go Go.ChangeShapes Go.WideShapes Go.ChangeAt Go.RowKit
def CI(W:World):Ax:=fun b=>match W.heap[b]? with
  | some (.cells c _ _)=>some c
  | _=>none
theorem Tc(W:World)(hg:GlobOk (CI W)):Rv (CI W) W where
 know:=fun b c h=>by
  unfold CI at h;split at h
  . rename_i c' T fr e;cases h;exact⟨T,fr,e⟩
  . cases h
 glob:=hg
theorem I9{W:World}{a:Addr}{v:Value}(h:W.cell? a=some v): ∃c,CI W a.block=some c/\a.spot=none/\c[a.off]?=some v:=by
 unfold World.cell? at h;split at h
 . rename_i c T fr e;split at h
   . cases h
   . rename_i hs;refine⟨c,by simp[CI,e],?_,h⟩
     cases e2:a.spot with
     | none=>rfl
     | some x=>simp[e2]at hs
 . cases h
def Reads(W:World)(cs:List Value)(xs:List AV):Prop:=xs.length=cs.length/\∀(j:Nat) (x:AV) (v:Value),xs[j]?=some x->cs[j]?=some v->Rel (CI W) AQ x v/\x.cell1=true
section
variable {H : Type}
def Dec(enc:TypeId×Value->H)(P:Program)(W:World)(t:TypeId){α:Type}(f:α->List AV)(Q:α->Prop):Prop:=
  ∀(fuel:Nat) (cs:List Value) (x:DataW H×List MemPlace),DataW.trod enc P W 0 (fun _=>true) true fuel t cs=some x->(x.1.weights P t).all (· <=reachBytes)=true->∃a,Reads W cs (f a)/\Q a
variable {enc : TypeId × Value -> H} {P : Program} {W : World} {t e : TypeId}
theorem Reads.one{v:Value}{x:AV}(h:Rel (CI W) AQ x v)(h1:x.cell1=true):Reads W [v] [x]:=⟨rfl,fun j y u hy hu=>by
 cases j with
 | zero=>simp at hy hu;subst hy;subst hu;exact⟨h,h1⟩
 | succ j=>simp at hy⟩
theorem Dec.int{k:IntKind}(ht:P.underlying t=some (.int k)):Dec enc P W t (fun n:Int=>[.int k n]) (fun n=>(Lit.int k n).wf=true):=fun fuel cs x h _=>by
 obtain⟨n,rfl,rfl,hw⟩:=DataW.trod_int ht h;exact⟨n,.one (.int _ _ _) rfl,hw⟩
theorem Dec.bool(ht:P.underlying t=some .bool):Dec enc P W t (fun b:Bool=>[.bool b]) (fun _=>True):=fun fuel cs x h _=>by
 obtain⟨b,rfl,rfl⟩:=DataW.trod_bool ht h;exact⟨b,.one (.bool _ _) rfl,trivial⟩
theorem Ib{α:Type}{R:Nat->α->Prop}: ∀n:Nat,(∀i,i<n->∃a,R i a)->∃l:List α,l.length=n/\∀i a,l[i]?=some a->R i a
 | 0,_=>⟨[],rfl,fun i a h=>by simp at h⟩
 | n+1,h=>by
  obtain⟨l,h1,h2⟩:=Ib n (fun i hi=>h i (by omega));obtain⟨a,ha⟩:=h n (by omega);refine⟨l++[a],by simp[h1],fun i b hb=>?_⟩
  by_cases hi:i<n
  . rw[List.getElem?_append_left (by omega)]at hb;exact h2 i b hb
  . rw[List.getElem?_append_right (by omega)]at hb;have:i=n:=by
     rcases Nat.lt_or_ge (i-l.length) 1 with h | h
     . omega
     . rw[List.getElem?_eq_none (by simpa using h)]at hb;cases hb
    subst this;simp[h1]at hb;subst hb;exact ha
theorem weightsAll_get: ∀{ds:List (DataW H)} {d:DataW H} {i:Nat},(DataW.weightsAll P e ds).all (· <=reachBytes)=true->ds[i]?=some d->(d.weights P e).all (· <=reachBytes)=true
 | [],_,_,_,h=>by simp at h
 | d::r,d',0,hw,h=>by
  simp at h;subst h;simp only[DataW.weightsAll,List.all_append,Bool.and_eq_true]at hw;exact hw.1
 | d::r,d',i+1,hw,h=>by
  simp only[DataW.weightsAll,List.all_append,Bool.and_eq_true]at hw;exact weightsAll_get (ds:=r) hw.2 (by simpa using h)
theorem Dec.slice{α:Type}{f:α->List AV}{Q:α->Prop}(ht:P.underlying t=some (.slice e))(hc:0<P.cellsOf e)(he:Dec enc P W e f Q):
 Dec enc P W t (fun l:List α=>[.lst false (l.map f)]) (fun l=>l.length*P.bytesOf e<=reachBytes/\∀a∈l,Q a):=fun fuel cs x h hw=>by
 rcases DataW.trod_slice ht h with⟨rfl,rfl⟩ |⟨a,len,cap,elems,rest,n,rfl,rfl,rfl,hb,hl,hm,hlen,hel,hsp,hns⟩
 . exact⟨[],.one (.lst0 _ _ _ _ (fun h=>by cases h) (Nat.zero_le _) (fun _=>rfl) trivial) rfl,by simp,fun a h=>by cases h⟩
 simp only[DataW.weights,ht,List.all_cons,List.all_append,Bool.and_eq_true,decide_eq_true_eq,List.length_map]at hw;obtain⟨w1,w2,w3⟩:=hw;have key: ∀i,i<len->∃y,∃cs',W.cells? 0 (a.add (i*P.cellsOf e)) (P.cellsOf e)=some cs'/\Reads W cs' (f y)/\Q y:=fun i hi=>by
  have h1:=hel i hi;have hlt:i<elems.length:=by omega
  rw[List.getElem?_eq_getElem hlt]at h1;rw[Option.bind_eq_some_iff]at h1;obtain⟨cs',c1,c2⟩:=h1;obtain⟨y,y1,y2⟩:=he _ _ _ c2 (weightsAll_get w2 (i:=i) (by rw[List.getElem?_map,List.getElem?_eq_getElem hlt];rfl));exact⟨y,cs',c1,y1,y2⟩
 obtain⟨l,l1,l2⟩:=Ib len key;have hQ: ∀y∈l,Q y:=fun y hy=>by
  obtain⟨i,hi⟩:=List.mem_iff_getElem?.1 hy;obtain⟨cs',_,_,q⟩:=l2 i y hi;exact q
 exact zt9
variable {T : Nat -> Option Ar}
theorem F5{i:Ar}(hT:Cn P T)(hi:T t=some i):P.cellsOf t=i.size:=by
 obtain⟨info,d,e1,e2,e3,e4,e5,e6⟩:=Aj (hT _ _ hi);simp[Program.cellsOf,e1,e4]
theorem Oc{i:Ar}(hT:Cn P T)(hi:T t=some i):P.bytesOf t=i.bytes:=by
 obtain⟨info,d,e1,e2,e3,e4,e5,e6⟩:=Aj (hT _ _ hi);simp[Program.bytesOf,e1,e5]
theorem BT{k:IntKind}{i:Ar}(hT:Cn P T)(hi:T t=some i)(hk:i.k= .int k):Dec enc P W t (fun n:Int=>[.int k n]) (fun n=>(Lit.int k n).wf=true):=by
 obtain⟨info,d,e1,e2,e3,e4,e5,e6⟩:=Aj (hT _ _ hi);have hd:=Gv (P:=P) (d:=d) (e3▸hk);subst hd;exact Dec.int e2
theorem Dec.slice'{α:Type}{f:α->List AV}{Q:α->Prop}{i j:Ar}{u:Nat}(hT:Cn P T)(hi:T t=some i)(hk:i.k= .slice u)(hj:T u=some j)(hp:0<j.size)(he:Dec enc P W u f Q):
 Dec enc P W t (fun l:List α=>[.lst false (l.map f)]) (fun l=>l.length*j.bytes<=reachBytes/\∀a∈l,Q a):=by
 obtain⟨info,d,e1,e2,e3,e4,e5,e6⟩:=Aj (hT _ _ hi);have hd:=Bn (P:=P) (d:=d) (e3▸hk);subst hd;have:=Dec.slice (enc:=enc) (W:=W) e2 (by rw[F5 hT hj];exact hp) he;rwa[Oc hT hj]at this
theorem weightsEach_get: ∀{ts:List TypeId} {ds:List (DataW H)} {t:TypeId} {d:DataW H} {i:Nat},(DataW.weightsEach P ts ds).all (· <=reachBytes)=true->ts[i]?=some t->ds[i]?=some d->(d.weights P t).all (· <=reachBytes)=true
 | [],_,_,_,_,_,h,_=>by simp at h
 | _::_,[],_,_,_,_,_,h=>by simp at h
 | t::ts,d::ds,t',d',0,hw,h1,h2=>by
  simp at h1 h2;subst h1;subst h2;simp only[DataW.weightsEach,List.all_append,Bool.and_eq_true]at hw;exact hw.1
 | t::ts,d::ds,t',d',i+1,hw,h1,h2=>by
  simp only[DataW.weightsEach,List.all_append,Bool.and_eq_true]at hw;exact weightsEach_get (ts:=ts) (ds:=ds) hw.2 (by simpa using h1) (by simpa using h2)
def nS(enc:TypeId×Value->H)(P:Program)(W:World)(T:Nat->Option Ar)(cs:List Value)(fs:List (Nat×Nat)):Prop:=
  ∀(i off u:Nat),fs[i]?=some (off,u)->∀{α:Type} {f:α->List AV} {Q:α->Prop},Dec enc P W u f Q->∃a,Reads W ((cs.drop off).take (P.cellsOf u)) (f a)/\Q a
theorem JN{i:Ar}{fs:List (Nat×Nat)}(hT:Cn P T)(hi:T t=some i)(hk:i.k= .struct fs){fuel:Nat}{cs:List Value}{x:DataW H×List MemPlace}(h:DataW.trod enc P W 0 (fun _=>true) true fuel t cs=some x)(hw:(x.1.weights P t).all (· <=reachBytes)=true):
 cs.length=i.size/\nS enc P W T cs fs:=by
 obtain⟨info,d,e1,e2,e3,e4,e5,e6⟩:=Aj (hT _ _ hi);obtain⟨A,rfl,rfl,_⟩:=EC (P:=P) (d:=d) (e3▸hk);obtain⟨xs,n,rfl,rfl,hl,hxl,hx⟩:=DataW.trod_struct e2 h;refine⟨by rw[hl,F5 hT hi],fun j off u hj α f Q hd=>?_⟩;rw[List.getElem?_map,Option.map_eq_some_iff]at hj;obtain⟨F,hF,hF2⟩:=hj;simp only[Prod.mk.injEq]at hF2;obtain⟨rfl,rfl⟩:=hF2;have hFa:A[j]?=some F:=by simpa using hF
 have hjlt:j<xs.length:=by rw[hxl];exact(Array.getElem?_eq_some_iff.1 hFa).1
 have h1:=hx j F hFa;rw[List.getElem?_eq_getElem hjlt]at h1;simp only[DataW.weights,e2]at hw;exact hd _ _ _ h1 (weightsEach_get hw (i:=j) (by rw[List.getElem?_map,hF];rfl) (by rw[List.getElem?_map,List.getElem?_eq_getElem hjlt];rfl))
theorem Reads.nil(W:World)(cs:List Value):Reads W (cs.take 0) []:=⟨by simp,fun j x v h=>by simp at h⟩
theorem Reads.app{cs:List Value}{off n:Nat}{xs ys:List AV}(h1:Reads W (cs.take off) xs)(h2:Reads W ((cs.drop off).take n) ys)(ho:off<=cs.length):Reads W (cs.take (off+n)) (xs++ys):=by
 have hl1:xs.length=off:=by rw[h1.1,List.length_take];omega
 refine⟨by rw[List.length_append,h2.1,hl1];simp only[List.length_take,List.length_drop];omega,fun j x v hx hv=>?_⟩;rw[List.take_add]at hv
 by_cases hj:j<off
 . rw[List.getElem?_append_left (by omega)]at hx;rw[List.getElem?_append_left (by rw[List.length_take];omega)]at hv;exact h1.2 j x v hx hv
 . rw[List.getElem?_append_right (by omega)]at hx;rw[List.getElem?_append_right (by rw[List.length_take];omega)]at hv;have hll:(List.take off cs).length=off:=by rw[List.length_take];omega
   rw[hll]at hv;rw[hl1]at hx;exact h2.2 _ x v hx hv
theorem Reads.all{cs:List Value}{n:Nat}{xs:List AV}(h:Reads W (cs.take n) xs)(hn:cs.length=n):Reads W cs xs:=by
 rwa[List.take_of_length_le (by omega)]at h
theorem Reads.val{v:Value}{xs:List AV}(h:Reads W v.cells.toList xs)(hv: ∃cs,v= .agg cs):Rel (CI W) AQ (.agg xs) v:=by
 obtain⟨cs,rfl⟩:=hv;exact .agg _ _ _ (by simpa[Value.cells]using h.1) fun j x u h1 h2=>(h.2 j x u h1 (by simpa[Value.cells]using h2)).1
theorem Reads.val1{v:Value}{x:AV}(h:Reads W v.cells.toList [x])(hv: ∀cs,v≠ .agg cs):Rel (CI W) AQ x v:=by
 have hc:v.cells.toList=[v]:=by cases v<;>first | rfl | exact absurd rfl (hv _)
 rw[hc]at h;exact(h.2 0 x v rfl rfl).1
theorem UB{b0:Nat}{v:Value}{i:Ar}{fs:List (Nat×Nat)}(hT:Cn P T)(hi:T t=some i)(hk:i.k= .struct fs)(h:Value.okWide P W .any b0 t v): ∃cs,v= .agg cs:=by
 obtain⟨info,d,e1,e2,e3,e4,e5,e6⟩:=Aj (hT _ _ hi);obtain⟨A,rfl,_,_⟩:=EC (P:=P) (d:=d) (e3▸hk);unfold Value.okWide at h;rw[e2]at h;obtain⟨cs,h1,_⟩:=h;exact⟨cs,h1⟩
theorem Grow.kept{H0 H':Ax}{W W':World}(g:Grow H0 W H' W')(may:MemPlace->Prop):W.keptBut W' may:=by
 refine⟨g.os,g.out,fun i hi=>?_⟩;rw[g.keep i hi];split<;>simp_all
theorem ZS{f:Func}{s:ChangeSpec}{apart fresh handsOn:Bool}{W W':World}{args:Array Value}{v:Value}{ds gs:List (DataW H)}{before pa pv:List MemPlace}
 (hW:DataW.Whole enc P f.params.toList s.vars apart W args.toList ds gs before)
 (hres: ∀(b:Nat) (sp:Nat->Bool) (hd:Bool),DataW.TrodAll enc P W' b sp hd f.resultTypes.toList (v.resultList f.resultTypes.size) (s.fn H (ds++gs)).results [])
 (hargs: ∀sp:Nat->Bool,(∀p∈before,sp p.block=true)->DataW.TrodAll enc P W' 0 sp true f.params.toList args.toList (s.fn H (ds++gs)).args pa)
 (hvars: ∀sp:Nat->Bool,(∀p∈before,sp p.block=true)->DataW.TrodVars enc P W' sp s.vars (s.fn H (ds++gs)).vars pv)
 (hps:before=pa++pv) (hk: ∀may:MemPlace->Prop,W.keptBut W' may):s.post enc P f apart fresh handsOn false W args v W':=by
 have hold: ∀p∈before,(fun b=>decide (b<W.heap.size)) p.block=true:=fun p hp=>by simpa using hW.lt p hp
 exact⟨ds,gs,before,[],pa,pv,hW,hres _ _ _,hargs _ hold,hvars _ hold,hk _,fun h=>by cases h⟩
theorem I4(hl:laidOutB P=true){W':World}{sp:Nat->Bool}: ∀{ts:List TypeId} {vs:List Value} {ds:List (DataW H)} {ps:List MemPlace},ts.all (fun t=>P.readableRec t&&decide (t<P.types.size))=true->
 DataW.TrodAll enc P W 0 (fun _=>true) true ts vs ds ps->(∀p∈ps,W.sameAt W' p)->(∀p∈ps,sp p.block=true)->DataW.TrodAll enc P W' 0 sp true ts vs ds ps
 | [],vs,ds,ps,_,h,_,_=>by
  obtain⟨rfl,rfl,rfl⟩:=trodAll_nil h;rfl
 | t::ts,vs,ds,ps,hr,h,h1,h2=>by
  obtain⟨v,vs',d,ds',p,q,rfl,rfl,rfl,hd,hrest⟩:=trodAll_cons h;simp only[List.all_cons,Bool.and_eq_true,decide_eq_true_eq]at hr;exact⟨p,q,WideElems.Trod_stays hl hr.1.1 hr.1.2 hd (fun x hx=>h1 x (by simp[hx])) (fun x hx=>h2 x (by simp[hx])),I4 hl hr.2 hrest (fun x hx=>h1 x (by simp[hx])) (fun x hx=>h2 x (by simp[hx])),rfl⟩
theorem Grow.same{H0 H':Ax}{W W':World}(g:Grow H0 W H' W'){p:MemPlace}(hp:p.block<W.heap.size):W.sameAt W' p:=by
 cases p with
 | cell b off=>
  have:=g.keep b hp;show W'.cell? _=W.cell? _;unfold World.cell?;simp only[this]
 | map b=>exact g.keep b hp
theorem XI{f:FuncId}{fn:Func}{s:ChangeSpec}{args:Array Value}{ds gs:List (DataW H)}{before:List MemPlace}{tb:TypeId}{xs:List AV}(hl:laidOutB P=true)(hvs:s.vars=[])(hr:fn.params.toList.all (fun t=>P.readableRec t&&decide (t<P.types.size))=true)
 (hres:fn.resultTypes= #[tb]) (hb:P.underlying tb=some .bool) (hs1:(s.fn H (ds++gs)).results=[.lit (.bool true)]) (hs2:(s.fn H (ds++gs)).args=ds) (hs3:(s.fn H (ds++gs)).vars=[])
 (hW:DataW.Whole enc P fn.params.toList s.vars false W args.toList ds gs before) (hrel:RelAll (CI W) AQ xs args) (hc:APure P f xs (fun r=>r= .bool true)) (hg:GlobOk (CI W)) {fresh handsOn:Bool}:
 Calls P f args W fun e W'=>∃v,e= .returned v/\s.post enc P fn false fresh handsOn false W args v W':=by
 have hW':=hW;obtain⟨p,q,hA,hV,rfl,hfz,hnd⟩:=hW;rw[hvs]at hV;obtain⟨rfl,rfl⟩:=trodVars_none hV;have hlt: ∀x∈p++[],x.block<W.heap.size:=fun x hx=>hW'.lt x hx
 refine(hc (CI W) W args hrel (Tc W hg)).mono fun e W' hx=>?_
 obtain⟨v,r,H',rfl,rfl,h3,h4⟩:=hx;have hv:=h3.bool_inv;subst hv;refine⟨_,rfl,ZS (pa:=p) (pv:=[]) hW' (fun b sp hd=>?_) (fun sp hsp=>?_) (fun sp hsp=>?_) rfl (fun may=>h4.kept may)⟩
 . rw[hs1,hres];exact trodAll_mk1 (shut_bool hb true)
 . rw[hs2];exact I4 hl hr hA (fun x hx=>h4.same (hlt x (by simp[hx]))) (fun x hx=>hsp x (by simp[hx]))
 . rw[hs3,hvs];rfl
theorem RelAll.nil{K:Ax}{ι:Ba}:RelAll K ι [] #[]:=⟨rfl,fun j x v h=>by simp at h⟩
theorem RelAll.cons{K:Ax}{ι:Ba}{x:AV}{xs:List AV}{v:Value}{vs:List Value}(h:Rel K ι x v)(hs:RelAll K ι xs ⟨vs⟩):RelAll K ι (x::xs) ⟨v::vs⟩:=by
 refine⟨by have:=hs.1;simp at this |-;exact this,fun j y u h1 h2=>?_⟩
 cases j with
 | zero=>simp at h1 h2;subst h1;subst h2;exact h
 | succ j=>exact hs.2 j y u (by simpa using h1) (by simpa using h2)
end
end Go.Proofs.YtbbfelelocccmaaGreat.Sv
namespace Go.Proofs.YtbbfelelocccmaaGreat.Sv
open Go
def setsOp(op:Int):Bool:=op==1||(op==2||(op==3||(op==4||(op==6||op==8))))
def Tac.sets(t:Tac):Int:=bif setsOp t.op then t.d else -1
def use1(op:Int):Bool:=op==2||(op==5||(op==6||op==9))
def use2(op:Int):Bool:=op==3||op==7
def Tac.uses(t:Tac):List Int:=bif use1 t.op then [t.a]else bif use2 t.op then [t.a,t.b]else []
theorem JK(t:Tac):t.uses.length<=2:=by
 unfold Tac.uses
 cases use1 t.op<;>cases use2 t.op<;>simp
def AP(i n:Int):Bool:=decide (0<=i)&&decide (i<n)
theorem Mw(op:Int):(use1 op&&use2 op)=false:=by
 rw[Bool.eq_false_iff];intro h;simp only[use1,use2,Bool.and_eq_true,Bool.or_eq_true,beq_iff_eq]at h;omega
def baseOp(op:Int):Bool:=op==4||op==5
def G2(op:Int):Bool:=op==6||op==7
def Tac.want(t:Tac):Tac where
  op:=t.op
  d:=bif setsOp t.op then t.d else 0
  a:=bif use1 t.op||use2 t.op then t.a else 0
  b:=bif use2 t.op then t.b else 0
  k:=bif t.op==3 then t.k else 0
  base:=bif baseOp t.op||(G2 t.op||t.op==10)then t.base else 0
  size:=bif G2 t.op then t.size else 0
  n:=bif t.op==1 then t.n else 0
def Tac.same(x y:Tac):Bool:=x.op==y.op&&(x.d==y.d&&(x.a==y.a&&(x.b==y.b&&(x.k==y.k&&(x.base==y.base&&(x.size==y.size&&(x.n==y.n&&true)))))))
theorem Tac.same_iff(x y:Tac):x.same y=true↔x=y:=by
 have h1:=Tac.eqCells x y;have h2:Sv.eqCells x.cells y.cells=some (x.same y):=rfl;rw[h1]at h2;have h3:decide (x=y)=x.same y:=by simpa using h2
 rw[<-h3,decide_eq_true_iff]
def Tac.rest(t:Tac)(f words:Int):Bool:=
  bif t.op==3 then decide (4<=t.k)&&decide (t.k<=15)
  else bif baseOp t.op then AP t.base words
  else bif G2 t.op then decide (1<=t.size)&&(decide (t.size<=4096)&&(decide (0<=t.base)&&decide (t.base<=words-t.size)))
  else bif t.op==10 then AP t.base f
  else true
def Tac.fits(t:Tac)(f regs words:Int):Bool:=
  decide (1<=t.op)&&(decide (t.op<=10)&&((!setsOp t.op||AP t.d regs)&&(t.uses.all (fun r=>AP r regs)&&(t.rest f words&&t.same t.want))))
theorem Ei{t:Tac}(h:decide (t.sets>=0)=true):setsOp t.op=true:=by
 unfold Tac.sets at h
 cases e:setsOp t.op with
 | true=>rfl
 | false=>rw[e]at h;simp at h
theorem fits_op{t:Tac}{f regs words:Int}(h: ¬(1<=t.op/\t.op<=10)):t.fits f regs words=false:=by
 rw[Bool.eq_false_iff];intro h2;simp only[Tac.fits,Bool.and_eq_true,decide_eq_true_eq]at h2;exact h ⟨h2.1,h2.2.1⟩
theorem iR{t:Tac}{f regs words:Int}(h:setsOp t.op=true)(h2:AP t.d regs=false):t.fits f regs words=false:=by
 simp[Tac.fits,h,h2]
theorem bl{t:Tac}{f regs words:Int}(h:t.uses.all (fun r=>AP r regs)=false):t.fits f regs words=false:=by
 simp only[Tac.fits,h,Bool.false_and,Bool.and_false]
theorem PU{t:Tac}{f regs words:Int}(h:t.rest f words=false):t.fits f regs words=false:=by
 simp only[Tac.fits,h,Bool.false_and,Bool.and_false]
theorem XY{t:Tac}{f regs words:Int}(h1:decide (t.op<1)=false)(h2:decide (t.op>10)=false)(hd:(!setsOp t.op||AP t.d regs)=true)(hu:t.uses.all (fun r=>AP r regs)=true)(hr:t.rest f words=true):t.fits f regs words=t.same t.want:=by
 have h1':decide (1<=t.op)=true:=by simp at h1 |-;omega
 have h2':decide (t.op<=10)=true:=by simp at h2 |-;omega
 simp only[Tac.fits,h1',h2',hd,hu,hr,Bool.true_and]
def Block.ends(b:Block)(blocks regs:Int):Bool:=
  bif b.fin==1 then AP b.to blocks&&(b.v==0&&b.els==0)
  else bif b.fin==2 then AP b.to blocks&&(AP b.els blocks&&AP b.v regs)
  else b.fin==3&&(b.v==0&&(b.to==0&&b.els==0))
def Block.ok(x:Block)(blocks regs number words:Int):Bool:=x.ends blocks regs&&x.ins.all (fun t=>t.fits number regs words)
def BFunc.one(f:BFunc)(number words:Int):Bool:=
  decide (0<=f.regs)&&(decide (f.regs<=4000)&&(!f.blocks.isEmpty&&f.blocks.all (fun x=>x.ok f.blocks.length f.regs number words)))
def Blocks.right(b:Blocks):Bool:=
  decide (0<=b.words)&&(decide (b.words<=1048576)&&(!b.funcs.isEmpty&&b.funcs.zipIdx.all (fun p=>p.1.one (p.2:Int) b.words)))
def Block.count(x:Block):Nat:=1+x.ins.length
def BFunc.count(f:BFunc):Nat:=(f.blocks.map Block.count).sum
def Blocks.count(b:Blocks):Nat:=(b.funcs.map BFunc.count).sum
theorem dL{f:BFunc}{number words:Int}(h: ¬(0<=f.regs/\f.regs<=4000/\f.blocks.length≠0)):f.one number words=false:=by
 rw[Bool.eq_false_iff];intro h2;simp only[BFunc.one,Bool.and_eq_true,decide_eq_true_eq,Bool.not_eq_true',List.isEmpty_eq_false_iff]at h2;exact h ⟨h2.1,h2.2.1,fun e=>h2.2.2.1 (List.length_eq_zero_iff.1 e)⟩
theorem J1{f:BFunc}{number words:Int}(h1:0<=f.regs)(h2:f.regs<=4000)(h3:f.blocks.length≠0):f.one number words=f.blocks.all (fun x=>x.ok f.blocks.length f.regs number words):=by
 have h3':f.blocks.isEmpty=false:=by
  rw[List.isEmpty_eq_false_iff];intro e;rw[e]at h3;exact h3 rfl
 simp only[BFunc.one,decide_eq_true h1,decide_eq_true h2,h3',Bool.not_false,Bool.true_and]
theorem Xa{b:Blocks}(h: ¬(0<=b.words/\b.words<=1048576/\b.funcs.length≠0)):b.right=false:=by
 rw[Bool.eq_false_iff];intro h2;simp only[Blocks.right,Bool.and_eq_true,decide_eq_true_eq,Bool.not_eq_true',List.isEmpty_eq_false_iff]at h2;exact h ⟨h2.1,h2.2.1,fun e=>h2.2.2.1 (List.length_eq_zero_iff.1 e)⟩
theorem KK{b:Blocks}(h1:0<=b.words)(h2:b.words<=1048576)(h3:b.funcs.length≠0):b.right=b.funcs.zipIdx.all (fun p=>p.1.one (p.2:Int) b.words):=by
 have h3':b.funcs.isEmpty=false:=by
  rw[List.isEmpty_eq_false_iff];intro e;rw[e]at h3;exact h3 rfl
 simp only[Blocks.right,decide_eq_true h1,decide_eq_true h2,h3',Bool.not_false,Bool.true_and]
theorem Oh{α:Type}{l:List α}{p:α->Bool}{k:Nat}{x:α}(hx:l[k]?=some x)(h:(l.take k).all p=true)(hp:p x=true):(l.take (k+1)).all p=true:=by
 rw[Bc hx,List.all_append,h];simp[hp]
theorem Ks{α:Type}{l:List α}{p:α->Bool}{k:Nat}{x:α}(hx:l[k]?=some x)(hp:p x=false):l.all p=false:=by
 rw[Bool.eq_false_iff];intro h;rw[List.all_eq_true.1 h x (List.mem_of_getElem? hx)]at hp
 cases hp
theorem all_end{α:Type}{l:List α}{p:α->Bool}{k:Nat}(h:(l.take k).all p=true)(hk:l.length<=k):l.all p=true:=by
 rwa[List.take_of_length_le hk]at h
theorem sum_succ{α:Type}{l:List α}{p:α->Nat}{k:Nat}{x:α}(hx:l[k]?=some x):((l.take (k+1)).map p).sum=((l.take k).map p).sum+p x:=by
 rw[Bc hx,List.map_append,List.sum_append];simp
theorem c9{α:Type}{l:List α}{p:α->Nat}{k:Nat}(hk:l.length<=k):((l.take k).map p).sum=(l.map p).sum:=by
 rw[List.take_of_length_le hk]
theorem FF{α:Type}{l:List α}{k:Nat}{x:α}(hx:l[k]?=some x):l.zipIdx[k]?=some (x,k):=by
 rw[List.getElem?_zipIdx,hx];simp
def qB:Nat:=140737488355328
theorem BFunc.ext'{f g:BFunc}(h1:f.regs=g.regs)(h2:f.blocks=g.blocks):f=g:=by cases f;cases g;simp_all
theorem MD{α:Type}{l l':List α}{k:Nat}(h:l.take k=l'.take k)(h1:l.length<=k)(h2:l'.length<=k):l=l':=by
 rwa[List.take_of_length_le h1,List.take_of_length_le h2]at h
def wdivide(op a b:Int):Int×Int:=bif b==0 then(0,14)else bif op==7 then(IntKind.u32.wrap (a.tdiv b),0)else(a.tmod b,0)
def Qh(op a b:Int):Int:=bif decide (b>31)then 0 else bif op==12 then IntKind.u32.wrap (a*2^(min b.toNat IntKind.u32.bits))else a.fdiv (2^(min b.toNat IntKind.u32.bits))
def JI(op a b:Int):Int:=bif (op==14&&decide (a<b))||(op==15&&a==b)then 1 else 0
def DP(op a b:Int):Int×Int:=
  bif op==4 then(IntKind.u32.wrap (a+b),0)
  else bif op==5 then(IntKind.u32.wrap (a-b),0)
  else bif op==6 then(IntKind.u32.wrap (a*b),0)
  else bif op==7||op==8 then wdivide op a b
  else bif op==9 then(IntKind.u32.wrap ((BitVec.ofInt IntKind.u32.bits a&&&BitVec.ofInt IntKind.u32.bits b).toNat),0)
  else bif op==10 then(IntKind.u32.wrap ((BitVec.ofInt IntKind.u32.bits a|||BitVec.ofInt IntKind.u32.bits b).toNat),0)
  else bif op==11 then(IntKind.u32.wrap ((BitVec.ofInt IntKind.u32.bits a^^^BitVec.ofInt IntKind.u32.bits b).toNat),0)
  else bif op==12||op==13 then(Qh op a b,0)
  else bif op==14||op==15 then(JI op a b,0)
  else(0,1)
def fq(p:Int×Int):AV:=.tup [.int .u32 p.1,.int .i64 p.2]
def Gc(n:Int):Prop:=0<=n/\n<4294967296
theorem E7(n:Int):Gc (IntKind.u32.wrap n):=by
 rw[IntKind.wrap_u32];constructor<;>omega
theorem wapp_word{op a b:Int}(ha:Gc a)(hb:Gc b):Gc (DP op a b).1:=by
 unfold DP
 cases op==4<;>simp only[cond_true,cond_false]<;>try exact E7 _
 cases op==5<;>simp only[cond_true,cond_false]<;>try exact E7 _
 cases op==6<;>simp only[cond_true,cond_false]<;>try exact E7 _
 cases op==7||op==8
 . simp only[cond_false]
   cases op==9<;>simp only[cond_true,cond_false]<;>try exact E7 _
   cases op==10<;>simp only[cond_true,cond_false]<;>try exact E7 _
   cases op==11<;>simp only[cond_true,cond_false]<;>try exact E7 _
   cases op==12||op==13
   . simp only[cond_false]
     cases op==14||op==15
     . simp only[cond_false];constructor<;>omega
     . simp only[cond_true,JI]
       cases (op==14&&decide (a<b))||(op==15&&a==b)<;>simp only[cond_true,cond_false]<;>constructor<;>omega
   . simp only[cond_true,Qh]
     cases decide (b>31)<;>simp only[cond_true,cond_false]
     . cases op==12<;>simp only[cond_true,cond_false]
       . have hp:(0:Int)<2^(min b.toNat IntKind.u32.bits):=Int.pow_pos (by omega);rw[Int.fdiv_eq_ediv_of_nonneg _ (Int.le_of_lt hp)];refine⟨Int.ediv_nonneg ha.1 (Int.le_of_lt hp),?_⟩;have:=Int.ediv_le_self (2^(min b.toNat IntKind.u32.bits)) ha.1;have:=ha.2;omega
       . exact E7 _
     . constructor<;>omega
 . simp only[cond_true,wdivide]
   cases hz:b==0<;>simp only[cond_true,cond_false]
   . cases op==7<;>simp only[cond_true,cond_false]
     . rw[Int.tmod_eq_emod_of_nonneg ha.1];have hb0:b≠0:=by simpa using hz
       refine⟨Int.emod_nonneg _ hb0,?_⟩;have:=Int.emod_lt_of_pos a (show 0<b by have:=hb.1;omega);have:=hb.2;omega
     . exact E7 _
   . constructor<;>omega
abbrev Cv:=List (Int×Int)
def nm(K:Cv):Ez:=K.map fun p=>(p.1,AV.int .u32 p.2)
def pget(z:Int):Cv->Option Int
  | []=>none
  |(k,v)::r=>bif z==k then some v else pget z r
def pset(z v:Int):Cv->Cv
  | []=>[(z,v)]
  |(k,u)::r=>bif z==k then(k,v)::r else(k,u)::pset z v r
def pdel(z:Int):Cv->Cv
  | []=>[]
  |(k,u)::r=>bif z==k then r else(k,u)::pdel z r
theorem V6(z:Int): ∀K:Cv,SY z (nm K)=(pget z K).map (AV.int .u32)
 | []=>rfl
 |(k,v)::r=>by
  have ih:=V6 z r;unfold SY at ih |-;simp only[nm,List.map_cons,klook,pget]
  cases z==k with
  | true=>rfl
  | false=>
   simp only[cond_false,Option.map_map];rw[<-ih];rfl
theorem V4(z v:Int): ∀K:Cv,I1 z (.int .u32 v) (nm K)=nm (pset z v K)
 | []=>rfl
 |(k,u)::r=>by
  have ih:=V4 z v r;simp only[nm,List.map_cons,I1,pset]at ih |-
  grind
theorem V7(z:Int): ∀K:Cv,kdel z (nm K)=nm (pdel z K)
 | []=>rfl
 |(k,u)::r=>by
  have ih:=V7 z r;simp only[nm,List.map_cons,kdel,pdel]at ih |-
  grind
def Kt(K:Cv):Prop:=∀p∈K,Gc p.2
theorem E6:Gc 0:=by constructor<;>omega
theorem QQ{K:Cv}(h:Kt K)(z:Int):Gc ((pget z K).getD 0):=by
 induction K with
 | nil=>exact E6
 | cons p r ih=>
  unfold pget
  cases z==p.1 with
  | true=>exact h p (by simp)
  | false=>exact ih fun q hq=>h q (by simp[hq])
theorem iy{K:Cv}(h:Kt K)(z:Int){v:Int}(hv:Gc v):Kt (pset z v K):=by
 induction K with
 | nil=>intro p hp;simp[pset]at hp;subst hp;exact hv
 | cons p r ih=>
  unfold pset
  cases z==p.1 with
  | true=>
   intro q hq;simp only[cond_true,List.mem_cons]at hq;rcases hq with rfl | hq
   . exact hv
   . exact h q (by simp[hq])
  | false=>
   exact fm
theorem iz{K:Cv}(h:Kt K)(z:Int):Kt (pdel z K):=by
 induction K with
 | nil=>exact h
 | cons p r ih=>
  unfold pdel
  cases z==p.1 with
  | true=>exact fun q hq=>h q (by simp only[cond_true]at hq;simp[hq])
  | false=>
   exact fm
section
variable {P : Program} {T : Nat -> Option Ar} {o : Oper} {e : As} {h : Ab}
theorem KQ(hT:Cn P T){t kt et:TypeId}{x y:Operand}{b:Nat}{z:Int}{K:Cv}{i j:Ar}(ho:o.op= .lookup t x y true)(hx:Ak e x=some (.map b))(hy:Ak e y=some (.int .i64 z))(hb:h b=some (.map (kvs .i64 (nm K))))
 (hi:T t=some i) (hk:i.k= .map kt et) (hj:T kt=some j) (hjk:j.k= .int .i64) (hz:(P.info? et).bind (·.zero)=some (.int .u32 0)):QLoc P o e h [b] (.tup [.int .u32 ((pget z K).getD 0),.bool (pget z K).isSome]):=by
 have:=M6 hT ho hx hy hb hi hk hj hjk hz (z0:=.int .u32 0) rfl;rw[V6]at this
 cases e:pget z K<;>rw[e]at this<;>exact this
theorem QS(hT:Cn P T){t kt et:TypeId}{x y u:Operand}{b:Nat}{z v:Int}{K:Cv}{i j:Ar}(ho:o.op= .mapUpdate t x y u)(hd:o.dst=none)(hx:Ak e x=some (.map b))(hy:Ak e y=some (.int .i64 z))(hu:Ak e u=some (.int .u32 v))
 (hb:h b=some (.map (kvs .i64 (nm K)))) (hi:T t=some i) (hk:i.k= .map kt et) (hj:T kt=some j) (hjk:j.k= .int .i64):OLoc P o e h [b] [(b,.map (kvs .i64 (nm (pset z v K))))] none:=by
 have:=o_mapUpdate hT ho hd hx hy hu rfl hb hi hk hj hjk;rwa[V4]at this
theorem o_deleteW(hT:Cn P T){t kt et tk:TypeId}{x y:Operand}{b:Nat}{z:Int}{K:Cv}{i j:Ar}(ho:o.op= .call {callee:=.builtin .delete,args:= #[x,y],argTypes:= #[t,tk]})(hd:o.dst=none)(hx:Ak e x=some (.map b))(hy:Ak e y=some (.int .i64 z))
 (hb:h b=some (.map (kvs .i64 (nm K)))) (hi:T t=some i) (hk:i.k= .map kt et) (hj:T kt=some j) (hjk:j.k= .int .i64):OLoc P o e h [b] [(b,.map (kvs .i64 (nm (pdel z K))))] none:=by
 have:=Nl hT ho hd hx hy hb hi hk hj hjk;rwa[V7]at this
end
theorem fill_get{α:Type}{F:List α}{f:α->List AV}{z:List AV}{k n:Nat}(hF:F.length=n)(hk:k<n):((F.take k).map f++List.replicate (n-k) z)[0+((k:Nat):Int).toNat]?=some z:=by
 grind
theorem BJ{α:Type}{F:List α}{f:α->List AV}{z:List AV}{k n:Nat}{x:α}(hF:F.length=n)(hx:F[k]?=some x):((F.take k).map f++List.replicate (n-k) z).set (0+((k:Nat):Int).toNat) (f x)=(F.take (k+1)).map f++List.replicate (n-(k+1)) z:=by
 have hk:k<n:=by rw[<-hF];exact(List.getElem?_eq_some_iff.1 hx).1
 have hl:((F.take k).map f).length=k:=by simp;omega
 rw[Int.toNat_natCast,Nat.zero_add,List.set_append,if_neg (by omega),hl,Nat.sub_self,Bc hx,List.map_append,List.append_assoc];congr 1;obtain⟨m,hm⟩: ∃m,n-k=m+1:=⟨n-k-1,by omega⟩
 have hm2:n-(k+1)=m:=by omega
 rw[hm,hm2];rfl
theorem Av{α:Type}{F:List α}{f:α->List AV}{z:List AV}{k n:Nat}(hF:F.length=n)(hk:k<=n):n=((F.take k).map f++List.replicate (n-k) z).length:=by
 simp;omega
theorem Cf{α:Type}{F:List α}{f:α->List AV}{z:List AV}{k n:Nat}(hF:F.length=n)(hk:n<=k):((((F.take k).map f++List.replicate (n-k) z).drop 0).take n)=F.map f:=by
 rw[Nat.sub_eq_zero_of_le hk,List.drop_zero,List.replicate_zero,List.append_nil,List.take_of_length_le (by simp;omega),List.take_of_length_le (by omega)]
def Dr(t:Tac)(K:Cv):Int×Bool:=
  bif t.op==2 then((pget t.a K).getD 0,(pget t.a K).isSome)
  else bif t.op==3 then bif (pget t.a K).isSome&&(pget t.b K).isSome then((DP t.k ((pget t.a K).getD 0) ((pget t.b K).getD 0)).1,(DP t.k ((pget t.a K).getD 0) ((pget t.b K).getD 0)).2==0)else(0,false)
  else(0,false)
def J9(d n:Int):Tac:=⟨1,d,0,0,0,0,0,n⟩
def C3(K:Cv)(t:Tac):Tac:=bif (Dr t K).2 then J9 t.d (Dr t K).1 else t
def GU(K:Cv)(t:Tac):Cv:=bif decide (t.sets<0)then K else bif t.op==1 then pset t.sets t.n K else pdel t.sets K
def Du(K:Cv):List Tac->List Tac
  | []=>[]
  | t::r=>C3 K t::Du (GU K (C3 K t)) r
def fknow(l:List Tac)(k:Nat):Cv:=(l.take k).foldl (fun K t=>GU K (C3 K t)) []
theorem BH: ∀(l:List Tac) (K:Cv),(Du K l).length=l.length
 | [],_=>rfl
 | t::r,K=>by simp only[Du,List.length_cons,BH r]
theorem H8: ∀(l:List Tac) (K:Cv) {k:Nat} {x:Tac},l[k]?=some x->(Du K l)[k]?=some (C3 ((l.take k).foldl (fun K t=>GU K (C3 K t)) K) x)
 | [],_,_,_,h=>by simp at h
 | t::r,K,0,x,h=>by simp at h;subst h;rfl
 | t::r,K,k+1,x,h=>by
  simp only[List.getElem?_cons_succ]at h;simp only[Du,List.getElem?_cons_succ,List.take_succ_cons,List.foldl_cons];exact H8 r _ h
theorem US{l:List Tac}{k:Nat}{x:Tac}(h:l[k]?=some x):fknow l (k+1)=GU (fknow l k) (C3 (fknow l k) x):=by
 unfold fknow;rw[Bc h,List.foldl_append];rfl
def I2(l:List Tac):Prop:=∀t∈l,Gc t.n
theorem bi{t:Tac}{K:Cv}(h:Kt K):Gc (Dr t K).1:=by
 unfold Dr
 cases t.op==2 with
 | true=>exact QQ h _
 | false=>
  cases t.op==3 with
  | false=>exact E6
  | true=>
   simp only[cond_true,cond_false]
   cases (pget t.a K).isSome&&(pget t.b K).isSome with
   | false=>exact E6
   | true=>exact wapp_word (QQ h _) (QQ h _)
theorem fstep_w{t:Tac}{K:Cv}(h:Kt K)(ht:Gc t.n):Gc (C3 K t).n:=by
 unfold C3
 cases (Dr t K).2 with
 | true=>exact bi h
 | false=>exact ht
theorem eJ{t:Tac}{K:Cv}(h:Kt K)(ht:Gc t.n):Kt (GU K t):=by
 unfold GU
 cases decide (t.sets<0)with
 | true=>exact h
 | false=>
  cases t.op==1 with
  | true=>exact iy h _ ht
  | false=>exact iz h _
theorem Wg{l:List Tac}(hl:I2 l): ∀k,Kt (fknow l k):=by
 intro k;unfold fknow;have: ∀(m:List Tac) (K:Cv),(∀t∈m,Gc t.n)->Kt K->Kt (m.foldl (fun K t=>GU K (C3 K t)) K):=by
  intro m
  induction m with
  | nil=>exact fun K _ h=>h
  | cons t r ih=>exact fun K hm hK=>ih _ (fun u hu=>hm u (by simp[hu])) (eJ hK (fstep_w hK (hm t (by simp))))
 grind[I2,Kt,fknow]
def Block.fold(b:Block):Block:={b with ins:=Du [] b.ins}
def BFunc.fold(f:BFunc):BFunc:={f with blocks:=f.blocks.map Block.fold}
def BFunc.mild(f:BFunc):Prop:=0<=f.regs/\f.regs<=100000/\f.blocks.length<=100000/\∀x∈f.blocks,x.ins.length<=100000/\I2 x.ins
def A1(b:Bool):List AV:=[.bool b]
def CO(r:List Bool):List AV:=[Ch r]
def BFunc.all(f:BFunc):Cert:=⟨List.replicate f.blocks.length (List.replicate f.regs.toNat true)⟩
end Go.Proofs.YtbbfelelocccmaaGreat.Sv
namespace Go.Proofs.YtbbfelelocccmaaGreat.Sv
open Go Go.ChangeShapes Go.WideShapes Go.ChangeAt Go.RowKit
def RC(n:Int):Prop:= -9223372036854775808<=n/\n<=9223372036854775807
theorem Dn{n:Int}(h:(Lit.int .i64 n).wf=true):RC n:=by
 simpa[Lit.wf,IntKind.min,IntKind.max,IntKind.signed,IntKind.bits,RC]using h
theorem gB{n:Int}(h:(Lit.int .u32 n).wf=true):Gc n:=by
 simp[Lit.wf,IntKind.min,IntKind.max,IntKind.signed,IntKind.bits]at h;exact⟨h.1,by omega⟩
structure Tac.Ok(t:Tac):Prop where
  op:RC t.op
  d:RC t.d
  a:RC t.a
  b:RC t.b
  k:RC t.k
  base:RC t.base
  size:RC t.size
  n:Gc t.n
structure Block.Ok(x:Block):Prop where
  len:x.ins.length*64<=reachBytes
  ins: ∀t∈x.ins,t.Ok
  fin:RC x.fin
  v:RC x.v
  to:RC x.to
  els:RC x.els
structure BFunc.Ok(f:BFunc):Prop where
  regs:RC f.regs
  len:f.blocks.length*56<=reachBytes
  blocks: ∀x∈f.blocks,x.Ok
structure Blocks.Ok(b:Blocks):Prop where
  words:RC b.words
  len:b.funcs.length*32<=reachBytes
  funcs: ∀f∈b.funcs,f.Ok
theorem BFunc.Ok.insW{f:BFunc}(h:f.Ok){x:Block}(hx:x∈f.blocks):I2 x.ins:=fun t ht=>((h.blocks x hx).ins t ht).n
section
variable {H : Type} {enc : TypeId × Value -> H} {P : Program} {W : World} {T : Nat -> Option Ar}
theorem Gd{cs:List Value}{off u:Nat}{xs ys:List AV}{j:Ar}(hT:Cn P T)(hj:T u=some j){n:Nat}(hn:j.size=n)(h1:Reads W (cs.take off) xs)(h2:Reads W ((cs.drop off).take (P.cellsOf u)) ys)(ho:off<=cs.length):Reads W (cs.take (off+n)) (xs++ys):=by
 rw[F5 hT hj,hn]at h2;exact h1.app h2 ho
theorem eT{t p q:Nat}(hT:Cn P T){i j1 j2:Ar}(hi:T t=some i)(hk:i.k= .struct [(0,p),(1,p),(2,p),(3,p),(4,p),(5,p),(6,p),(7,q)])(hs:i.size=8)(h1:T p=some j1)(k1:j1.k= .int .i64)(s1:j1.size=1)(h2:T q=some j2)(k2:j2.k= .int .u32)(s2:j2.size=1):
 Dec enc P W t Tac.cells Tac.Ok:=fun fuel cs x h hw=>by
 obtain⟨hl,hp⟩:=JN hT hi hk h hw;rw[hs]at hl;obtain⟨x0,a0,b0⟩:=hp 0 _ _ rfl (BT hT h1 k1);obtain⟨x1,a1,b1⟩:=hp 1 _ _ rfl (BT hT h1 k1);obtain⟨x2,a2,b2⟩:=hp 2 _ _ rfl (BT hT h1 k1);obtain⟨x3,a3,b3⟩:=hp 3 _ _ rfl (BT hT h1 k1);obtain⟨x4,a4,b4⟩:=hp 4 _ _ rfl (BT hT h1 k1);obtain⟨x5,a5,b5⟩:=hp 5 _ _ rfl (BT hT h1 k1);obtain⟨x6,a6,b6⟩:=hp 6 _ _ rfl (BT hT h1 k1);obtain⟨x7,a7,b7⟩:=hp 7 _ _ rfl (BT hT h2 k2);have c0:=Gd hT h1 s1 (Reads.nil W cs) a0 (by omega);have c1:=Gd hT h1 s1 c0 a1 (by omega);have c2:=Gd hT h1 s1 c1 a2 (by omega);have c3:=Gd hT h1 s1 c2 a3 (by omega);have c4:=Gd hT h1 s1 c3 a4 (by omega);have c5:=Gd hT h1 s1 c4 a5 (by omega);have c6:=Gd hT h1 s1 c5 a6 (by omega);have c7:=Gd hT h2 s2 c6 a7 (by omega);exact⟨⟨x0,x1,x2,x3,x4,x5,x6,x7⟩,c7.all hl,⟨Dn b0,Dn b1,Dn b2,Dn b3,Dn b4,Dn b5,Dn b6,gB b7⟩⟩
theorem Yf{t p s u:Nat}(hT:Cn P T){i j1 j2 j3:Ar}(hi:T t=some i)(hk:i.k= .struct [(0,s),(1,p),(2,p),(3,p),(4,p)])(hs:i.size=5)(h1:T p=some j1)(k1:j1.k= .int .i64)(s1:j1.size=1)
 (h2:T s=some j2) (k2:j2.k= .slice u) (s2:j2.size=1) (h3:T u=some j3) (s3:j3.size=8) (b3:j3.bytes=64) (hd:Dec enc P W u Tac.cells Tac.Ok):
 Dec enc P W t Block.cells Block.Ok:=fun fuel cs x h hw=>by
 obtain⟨hl,hp⟩:=JN hT hi hk h hw;rw[hs]at hl;obtain⟨x0,a0,b0⟩:=hp 0 _ _ rfl (Dec.slice' hT h2 k2 h3 (by omega) hd);obtain⟨x1,a1,b1⟩:=hp 1 _ _ rfl (BT hT h1 k1);obtain⟨x2,a2,b2⟩:=hp 2 _ _ rfl (BT hT h1 k1);obtain⟨x3,a3,b3'⟩:=hp 3 _ _ rfl (BT hT h1 k1);obtain⟨x4,a4,b4⟩:=hp 4 _ _ rfl (BT hT h1 k1);have c0:=Gd hT h2 s2 (Reads.nil W cs) a0 (by omega);have c1:=Gd hT h1 s1 c0 a1 (by omega);have c2:=Gd hT h1 s1 c1 a2 (by omega);have c3:=Gd hT h1 s1 c2 a3 (by omega);have c4:=Gd hT h1 s1 c3 a4 (by omega);rw[b3]at b0;exact⟨⟨x0,x1,x2,x3,x4⟩,c4.all hl,⟨b0.1,b0.2,Dn b1,Dn b2,Dn b3',Dn b4⟩⟩
end
theorem MZ{b:Blocks}(h:b.right=true):0<=b.words/\b.words<=1048576/\b.funcs≠[]/\∀(i:Nat) (f:BFunc),b.funcs[i]?=some f->f.one (i:Int) b.words=true:=by
 simp only[Blocks.right,Bool.and_eq_true,decide_eq_true_eq,Bool.not_eq_true',List.isEmpty_eq_false_iff]at h;exact⟨h.1,h.2.1,h.2.2.1,fun i f hf=>List.all_eq_true.1 h.2.2.2 (f,i) (List.mem_of_getElem? (FF hf))⟩
theorem Dd{f:BFunc}{i w:Int}(h:f.one i w=true):0<=f.regs/\f.regs<=4000/\f.blocks≠[]/\∀x∈f.blocks,x.ends f.blocks.length f.regs=true/\∀t∈x.ins,t.fits i f.regs w=true:=by
 simp only[BFunc.one,Bool.and_eq_true,decide_eq_true_eq,Bool.not_eq_true',List.isEmpty_eq_false_iff]at h;refine⟨h.1,h.2.1,h.2.2.1,fun x hx=>?_⟩;have:=List.all_eq_true.1 h.2.2.2 x hx;simp only[Block.ok,Bool.and_eq_true]at this;exact⟨this.1,fun t ht=>List.all_eq_true.1 this.2 t ht⟩
theorem H6{α:Type}{p:α->Nat}: ∀{l:List α} {x:α},x∈l->p x<=(l.map p).sum
 | y::l,x,h=>by
  rcases List.mem_cons.1 h with rfl | h
  . simp
  . have:=H6 (p:=p) h;simp;omega
end Go.Proofs.YtbbfelelocccmaaGreat.Sv
namespace Go.Proofs.YtbbfelelocccmaaGreat
open Go.ChangeShapes Go.WideShapes Go.ChangeAt Go.RowKit Sv
theorem own':ownKnob Tryz.prog.godebug=none:=by kernel_rfl
theorem laidOut':laidOutB Tryz.prog=true:=by kernel_rfl
theorem bool':Tryz.prog.underlying 4=some .bool:=by kernel_rfl
theorem okWide_cell{P:Program}{W:World}{T:Nat->Option Ar}{t u b0:Nat}{v:Value}{i:Ar}(hT:Cn P T)(hi:T t=some i)(hk:i.k= .slice u)(h:Value.okWide P W .any b0 t v): ∀cs,v≠ .agg cs:=by
 obtain⟨info,d,e1,e2,e3,e4,e5,e6⟩:=Aj (hT _ _ hi);have hd:=Bn (P:=P) (d:=d) (e3▸hk);subst hd;obtain⟨a,len,cap,rfl⟩:=okWide_slice e2 h;intro cs h
 cases h
section
variable {H : Type} {enc : TypeId × Value -> H} {W : World}
theorem decTac:Dec enc Tryz.prog W 91 Tac.cells Tac.Ok:=eT Ah rfl rfl rfl rfl rfl rfl rfl rfl rfl
theorem decBlock:Dec enc Tryz.prog W 80 Block.cells Block.Ok:=Yf Ah rfl rfl rfl rfl rfl rfl rfl rfl rfl rfl rfl rfl decTac
end
end Go.Proofs.YtbbfelelocccmaaGreat
namespace Go.Proofs.YtbbfelelocccmaaGreat.Sv
open Go
theorem OW{n:Nat}(h:n<9223372036854775808):IntKind.i64.wrap (n:Int)=(n:Int):=CB (by omega) (by omega)
theorem WG{n:Nat}(h:n<18446744073709551616):IntKind.u64.wrap (n:Int)=(n:Int):=by
 rw[IntKind.wrap_u64];omega
theorem br{k:IntKind}{a b:Nat}(hb:0<b):AX .rem (.int k (a:Int)) (.int k (b:Int))=some (.int k ((a%b:Nat):Int)):=by
 have h0: ¬(b:Int)=0:=by omega
 simp only[AX,BL,isShift,cond_false,if_true,if_neg h0];rw[Int.tmod_eq_emod_of_nonneg (by omega),Int.natCast_emod]
theorem bs{k:IntKind}{a b:Nat}(hb:0<b)(hw:k.wrap ((a/b:Nat):Int)=((a/b:Nat):Int)):AX .quo (.int k (a:Int)) (.int k (b:Int))=some (.int k ((a/b:Nat):Int)):=by
 have h0: ¬(b:Int)=0:=by omega
 simp only[AX,BL,isShift,cond_false,if_true,if_neg h0];rw[Int.tdiv_eq_ediv_of_nonneg (by omega),<-Int.natCast_ediv,hw]
theorem bu{k:IntKind}{a b:Nat}(hw:k.wrap ((a+b:Nat):Int)=((a+b:Nat):Int)):AX .add (.int k (a:Int)) (.int k (b:Int))=some (.int k ((a+b:Nat):Int)):=by
 simp only[AX,BL,isShift,cond_false,if_true];rw[<-Int.natCast_add,hw]
section
variable {P : Program} {T : Nat -> Option Ar} {o : Oper} {e : As} {h : Ab}
end
theorem XV{f:BFunc}(h:f.mild):f.fold.mild:=by
 refine⟨h.1,h.2.1,by simp only[BFunc.fold,List.length_map];exact h.2.2.1,fun y hy=>?_⟩;simp only[BFunc.fold,List.mem_map]at hy;obtain⟨x,hx,rfl⟩:=hy;obtain⟨h1,h2⟩:=h.2.2.2 x hx;refine⟨by simp only[Block.fold,BH];exact h1,fun t ht=>?_⟩;simp only[Block.fold]at ht;obtain⟨i,hi⟩:=List.mem_iff_getElem?.1 ht;have hlt:i<x.ins.length:=by rw[<-BH x.ins []];exact(List.getElem?_eq_some_iff.1 hi).1
 rw[H8 x.ins [] (List.getElem?_eq_getElem hlt)]at hi
 cases hi
 exact fstep_w (Wg h2 i) (h2 _ (List.getElem_mem hlt))
theorem Pg(z y v:Int): ∀K:Cv,pget y (pset z v K)=bif y==z then some v else pget y K
 | []=>rfl
 |(k,u)::r=>by
  have ih:=Pg z y v r;unfold pset
  cases hz:z==k with
  | true=>
   have hz':z=k:=by simpa using hz
   subst hz';simp only[cond_true,pget]
   cases y==z<;>rfl
  | false=>
   exact jx
def FK(K:Cv):Prop:=(K.map (·.1)).Nodup
theorem Pi{z:Int}: ∀{K:Cv},z∉K.map (·.1)->pget z K=none
 | [],_=>rfl
 |(k,u)::r,h=>by
  simp only[List.map_cons,List.mem_cons,not_or]at h;unfold pget;rw[show(z==k)=false by simp;exact h.1];exact Pi h.2
theorem Ph(z y:Int): ∀{K:Cv},FK K->pget y (pdel z K)=bif y==z then none else pget y K
 | [],_=>by simp[pdel,pget]
 |(k,u)::r,h=>by
  unfold FK at h;simp only[List.map_cons,List.nodup_cons]at h;have ih:=Ph z y (K:=r) h.2;unfold pdel
  cases hz:z==k with
  | true=>
   have hz':z=k:=by simpa using hz
   subst hz';simp only[cond_true,pget]
   cases hy:y==z with
   | true=>
    have hy':y=z:=by simpa using hy
    subst hy';simp only[cond_true];exact Pi h.1
   | false=>rfl
  | false=>
   exact jx
theorem Pe{z v:Int}{y:Int}: ∀{K:Cv},y∈(pset z v K).map (·.1)->y=z\/y∈K.map (·.1)
 | [],h=>by simp[pset]at h;exact .inl h
 |(k,u)::r,h=>by
  unfold pset at h
  cases hz:z==k with
  | true=>rw[hz]at h;simp only[cond_true,List.map_cons,List.mem_cons]at h |-;rcases h with h | h<;>simp[h]
  | false=>
   rw[hz]at h;simp only[cond_false,List.map_cons,List.mem_cons]at h |-;rcases h with h | h
   . exact .inr (.inl h)
   . rcases Pe h with h | h
     . exact .inl h
     . exact .inr (.inr h)
theorem Pj{z:Int}{y:Int}: ∀{K:Cv},y∈(pdel z K).map (·.1)->y∈K.map (·.1)
 | [],h=>by simp[pdel]at h
 |(k,u)::r,h=>by
  unfold pdel at h
  cases hz:z==k with
  | true=>rw[hz]at h;simp only[cond_true]at h;simp only[List.map_cons,List.mem_cons];exact .inr h
  | false=>
   rw[hz]at h;simp only[cond_false,List.map_cons,List.mem_cons]at h |-;rcases h with h | h
   . exact .inl h
   . exact .inr (Pj h)
theorem Mx{z v:Int}: ∀{K:Cv},FK K->FK (pset z v K)
 | [],_=>by simp[FK,pset]
 |(k,u)::r,h=>by
  unfold FK at h |-;simp only[List.map_cons,List.nodup_cons]at h;unfold pset
  cases hz:z==k with
  | true=>simp only[cond_true,List.map_cons,List.nodup_cons];exact h
  | false=>
   simp only[cond_false,List.map_cons,List.nodup_cons];refine⟨fun hm=>?_,Mx h.2⟩;rcases Pe hm with e | e
   . simp at hz;omega
   . exact h.1 e
theorem My{z:Int}: ∀{K:Cv},FK K->FK (pdel z K)
 | [],_=>by simp[FK,pdel]
 |(k,u)::r,h=>by
  unfold FK at h |-;simp only[List.map_cons,List.nodup_cons]at h;unfold pdel
  cases hz:z==k with
  | true=>simp only[cond_true];exact h.2
  | false=>
   simp only[cond_false,List.map_cons,List.nodup_cons];exact⟨fun hm=>h.1 (Pj hm),My h.2⟩
theorem RU{K:Cv}(h:FK K)(t:Tac):FK (GU K t):=by
 unfold GU
 cases decide (t.sets<0)with
 | true=>exact h
 | false=>cases t.op==1 with
  | true=>exact Mx h
  | false=>exact My h
def Tac.inR(t:Tac)(regs:Int):Prop:=(setsOp t.op=true->0<=t.d/\t.d<regs)/\∀u∈t.uses,0<=u/\u<regs
theorem Tn{t:Tac}{f regs words:Int}(h:t.fits f regs words=true):t.inR regs:=by
 simp only[Tac.fits,Bool.and_eq_true,Bool.or_eq_true,Bool.not_eq_true',List.all_eq_true,AP,decide_eq_true_eq]at h;refine⟨fun hs=>?_,fun u hu=>h.2.2.2.1 u hu⟩
 grind
structure Mach where
  words:List Int
  out:List UInt8
  read:Nat
  steps:Nat
  fin:Int
def rget(l:List Int)(z:Int):Int:=(l[z.toNat]?).getD 0
def AZ(l:List Int)(z v:Int):List Int:=l.set z.toNat v
def byteOf(n:Int):UInt8:=UInt8.ofNat n.toNat
def inAt(s:ByteArray)(i:Nat):UInt8:=(s.data.toList[i]?).getD 0
def CX(fuel:Int)(m:Mach):Bool×Mach:=bif decide ((m.steps:Int)>=fuel)then(false,{m with fin:=5})else(true,{m with steps:=m.steps+1})
def mone(call:Int->Mach->Mach)(s:ByteArray)(t:Tac)(regs:List Int)(m:Mach):List Int×Mach:=
  bif t.op==1 then(AZ regs t.d t.n,m)
  else bif t.op==2 then(AZ regs t.d (rget regs t.a),m)
  else bif t.op==3 then
    (bif (DP t.k (rget regs t.a) (rget regs t.b)).2==0 then(AZ regs t.d (DP t.k (rget regs t.a) (rget regs t.b)).1,m)else(regs,{m with fin:=2}))
  else bif t.op==4 then(AZ regs t.d (rget m.words t.base),m)
  else bif t.op==5 then(regs,{m with words:=AZ m.words t.base (rget regs t.a)})
  else bif t.op==6 then(bif decide (rget regs t.a>=t.size)then(regs,{m with fin:=3})else(AZ regs t.d (rget m.words (t.base+rget regs t.a)),m))
  else bif t.op==7 then(bif decide (rget regs t.a>=t.size)then(regs,{m with fin:=3})else(regs,{m with words:=AZ m.words (t.base+rget regs t.a) (rget regs t.b)}))
  else bif t.op==8 then(bif decide (m.read<s.size)then(AZ regs t.d ((inAt s m.read).toNat:Int),{m with read:=m.read+1})else(AZ regs t.d 256,m))
  else bif t.op==9 then(bif decide (m.out.length>=65536)then(regs,{m with fin:=4})else(regs,{m with out:=m.out++[byteOf (rget regs t.a)]}))
  else bif t.op==10 then(regs,call t.base m)
  else(regs,m)
def Ju(call:Int->Mach->Mach)(s:ByteArray)(fuel:Int):List Tac->List Int->Mach->Bool×List Int×Mach
  | [],regs,m=>(true,regs,m)
  | t::r,regs,m=>
    bif (CX fuel m).1 then
      (bif (mone call s t regs (CX fuel m).2).2.fin==0 then Ju call s fuel r (mone call s t regs (CX fuel m).2).1 (mone call s t regs (CX fuel m).2).2
       else(false,mone call s t regs (CX fuel m).2))
    else(false,regs,(CX fuel m).2)
def Block.next(k:Block)(regs:List Int):Int:=bif k.fin==2&&rget regs k.v==0 then k.els else k.to
def dZ(call:Int->Mach->Mach)(s:ByteArray)(fuel:Int)(f:BFunc):Nat->Int->List Int->Mach->Mach
  | 0,_,_,m=>m
  | g+1,i,regs,m=>
    match f.blocks[i.toNat]? with
    | none=>m
    | some k=>
      let p:=Ju call s fuel k.ins regs m
      bif p.1 then
        (bif (CX fuel p.2.2).1&& !(k.fin==3)then dZ call s fuel f g (k.next p.2.1) p.2.1 (CX fuel p.2.2).2 else(CX fuel p.2.2).2)
      else p.2.2
def m0(b:Blocks):Mach:=⟨List.replicate b.words.toNat 0,[],0,0,0⟩
def OR(l:List Int):Prop:=∀v∈l,Gc v
theorem QC{l:List Int}(h:OR l)(z:Int):Gc (rget l z):=by
 grind[rget,E6,List.mem_of_getElem?,OR,Gc]
theorem G7{l:List Int}(h:OR l)(z:Int){v:Int}(hv:Gc v):OR (AZ l z v):=fun u hu=>by
 grind[AZ,OR,Gc]
theorem BF(l:List Int)(z v:Int):(AZ l z v).length=l.length:=by simp[AZ]
theorem iV(c:UInt8):Gc ((c.toNat:Nat):Int):=by
 have:c.toNat<256:=UInt8.toNat_lt c;constructor<;>omega
structure Mach.good(W:Nat)(m:Mach):Prop where
  len:m.words.length=W
  words:OR m.words
  out:m.out.length<=65536
theorem Ns{fuel:Int}{m:Mach}{W:Nat}(h:m.good W):(CX fuel m).2.good W:=by
 unfold CX
 cases decide ((m.steps:Int)>=fuel)<;>exact⟨h.1,h.2,h.3⟩
theorem SL(fuel:Int)(m:Mach):m.steps<=(CX fuel m).2.steps:=by
 grind[CX]
theorem XB{call:Int->Mach->Mach}{s:ByteArray}{W:Nat}(hc: ∀i m,m.good W->(call i m).good W)(t:Tac)(ht:Gc t.n){regs:List Int}{m:Mach}(hr:OR regs)(h:m.good W):
 OR (mone call s t regs m).1/\(mone call s t regs m).1.length=regs.length/\(mone call s t regs m).2.good W:=by
 have ha:=QC hr t.a;have hb:=QC hr t.b;unfold mone
 cases t.op==1 with
 | true=>exact⟨G7 hr _ ht,BF _ _ _,h⟩
 | false=>
 cases t.op==2 with
 | true=>exact⟨G7 hr _ ha,BF _ _ _,h⟩
 | false=>
 cases t.op==3 with
 | true=>
  simp only[cond_true,cond_false]
  cases (DP t.k (rget regs t.a) (rget regs t.b)).2==0 with
  | true=>exact⟨G7 hr _ (wapp_word ha hb),BF _ _ _,h⟩
  | false=>exact⟨hr,rfl,⟨h.1,h.2,h.3⟩⟩
 | false=>
 cases t.op==4 with
 | true=>exact⟨G7 hr _ (QC h.2 _),BF _ _ _,h⟩
 | false=>
 cases t.op==5 with
 | true=>exact⟨hr,rfl,⟨by simp only[cond_true,cond_false];rw[BF];exact h.1,G7 h.2 _ ha,h.3⟩⟩
 | false=>
 cases t.op==6 with
 | true=>
  simp only[cond_true,cond_false]
  cases decide (rget regs t.a>=t.size)with
  | true=>exact⟨hr,rfl,⟨h.1,h.2,h.3⟩⟩
  | false=>exact⟨G7 hr _ (QC h.2 _),BF _ _ _,h⟩
 | false=>
 cases t.op==7 with
 | true=>
  simp only[cond_true,cond_false]
  cases decide (rget regs t.a>=t.size)with
  | true=>exact⟨hr,rfl,⟨h.1,h.2,h.3⟩⟩
  | false=>exact⟨hr,rfl,⟨by simp only[cond_false];rw[BF];exact h.1,G7 h.2 _ hb,h.3⟩⟩
 | false=>
 cases t.op==8 with
 | true=>
  simp only[cond_true,cond_false]
  cases decide (m.read<s.size)with
  | true=>exact⟨G7 hr _ (iV _),BF _ _ _,⟨h.1,h.2,h.3⟩⟩
  | false=>exact⟨G7 hr _ ⟨by omega,by omega⟩,BF _ _ _,h⟩
 | false=>
 cases t.op==9 with
 | true=>
  simp only[cond_true,cond_false]
  cases e:decide (m.out.length>=65536)with
  | true=>exact⟨hr,rfl,⟨h.1,h.2,h.3⟩⟩
  | false=>
   refine⟨hr,rfl,⟨h.1,h.2,?_⟩⟩;simp only[cond_false,List.length_append,List.length_cons,List.length_nil];simp at e;omega
 | false=>
 cases t.op==10 with
 | true=>exact⟨hr,rfl,hc _ _ h⟩
 | false=>exact⟨hr,rfl,h⟩
theorem UG{call:Int->Mach->Mach}{s:ByteArray}(hc: ∀i m,m.steps<=(call i m).steps)(t:Tac)(regs:List Int)(m:Mach):m.steps<=(mone call s t regs m).2.steps:=by
 unfold mone
 cases t.op==1 with
 | true=>exact Nat.le_refl _
 | false=>
 cases t.op==2 with
 | true=>exact Nat.le_refl _
 | false=>
 cases t.op==3 with
 | true=>
  simp only[cond_true,cond_false]
  cases (DP t.k (rget regs t.a) (rget regs t.b)).2==0<;>exact Nat.le_refl _
 | false=>
 cases t.op==4 with
 | true=>exact Nat.le_refl _
 | false=>
 cases t.op==5 with
 | true=>exact Nat.le_refl _
 | false=>
 cases t.op==6 with
 | true=>
  simp only[cond_true,cond_false]
  cases decide (rget regs t.a>=t.size)<;>exact Nat.le_refl _
 | false=>
 cases t.op==7 with
 | true=>
  simp only[cond_true,cond_false]
  cases decide (rget regs t.a>=t.size)<;>exact Nat.le_refl _
 | false=>
 cases t.op==8 with
 | true=>
  simp only[cond_true,cond_false]
  cases decide (m.read<s.size)<;>exact Nat.le_refl _
 | false=>
 cases t.op==9 with
 | true=>
  simp only[cond_true,cond_false]
  cases e:decide (m.out.length>=65536)<;>exact Nat.le_refl _
 | false=>
 cases t.op==10 with
 | true=>exact hc _ _
 | false=>exact Nat.le_refl _
def Blocks.insW(b:Blocks):Prop:=∀f∈b.funcs,∀x∈f.blocks,Sv.I2 x.ins
section
variable {P : Program} {T : Nat -> Option Ar} {o : Oper} {e : As} {h : Ab}
end
section
variable {call : Int -> Mach -> Mach} {s : ByteArray} {t : Tac} {regs : List Int} {m : Mach}
theorem fD(h:t.op=1):mone call s t regs m=(AZ regs t.d t.n,m):=by simp[mone,h]
theorem nJ(h:t.op=2):mone call s t regs m=(AZ regs t.d (rget regs t.a),m):=by simp[mone,h]
theorem nI(h:t.op=3)(hz:((DP t.k (rget regs t.a) (rget regs t.b)).2 !=0)=false):mone call s t regs m=(AZ regs t.d (DP t.k (rget regs t.a) (rget regs t.b)).1,m):=by
 grind[DP,rget,mone,AZ]
end
structure nQ(t:Tac)(number R:Nat)(words:Nat):Prop where
  op:1<=t.op/\t.op<=10
  d:setsOp t.op=true->0<=t.d/\t.d<R
  a:use1 t.op=true\/use2 t.op=true->0<=t.a/\t.a<R
  b:use2 t.op=true->0<=t.b/\t.b<R
  base:t.op=4\/t.op=5->0<=t.base/\t.base<words
  arr:t.op=6\/t.op=7->1<=t.size/\t.size<=4096/\0<=t.base/\t.base+t.size<=words
  call:t.op=10->0<=t.base/\t.base<number
theorem RZ{t:Tac}{f regs words:Int}(h:t.fits f regs words=true):nQ t f.toNat regs.toNat words.toNat:=by
 have h0:=h;simp only[Tac.fits,Bool.and_eq_true,Bool.or_eq_true,Bool.not_eq_true',List.all_eq_true,AP,decide_eq_true_eq]at h;obtain⟨h1,h2,h3,h4,h5,_⟩:=h;refine⟨⟨h1,h2⟩,fun e=>?_,fun e=>?_,fun e=>?_,fun e=>?_,fun e=>?_,fun e=>?_⟩
 . rcases h3 with h3 | h3
   . rw[e]at h3;cases h3
   . omega
 . have:=h4 t.a (by rcases e with e | e<;>simp[Tac.uses,e]<;>cases use1 t.op<;>simp);omega
 . have e2:=Mw t.op;rw[e,Bool.and_true]at e2;have:=h4 t.b (by simp[Tac.uses,e,e2]);omega
 . rcases e with e | e<;>simp[Tac.rest,baseOp,e,AP]at h5<;>omega
 . rcases e with e | e<;>simp[Tac.rest,baseOp,G2,e]at h5<;>omega
 . simp[Tac.rest,baseOp,G2,e,AP]at h5;omega
structure FG where
  i:Int
  regs:List Int
  m:Mach
  g:Nat
structure IG where
  j:Nat
  regs:List Int
  m:Mach
section
variable {call : Int -> Mach -> Mach} {s : ByteArray} {fuel : Int} {f : BFunc} {W R : Nat} {tgt : Mach} {q : FG} {k : Block} {r : IG}
structure FInv(call:Int->Mach->Mach)(s:ByteArray)(fuel:Int)(f:BFunc)(W R:Nat)(tgt:Mach)(q:FG):Prop where
  good:q.m.good W
  fin:q.m.fin=0
  regs:OR q.regs
  len:q.regs.length=R
  i:0<=q.i/\q.i<f.blocks.length
  g:0<q.g
  gas:fuel.toNat<q.m.steps+q.g
  tgt:dZ call s fuel f q.g q.i q.regs q.m=tgt
structure IInv(call:Int->Mach->Mach)(s:ByteArray)(fuel:Int)(k:Block)(q:FG)(W R:Nat)(r:IG):Prop where
  good:r.m.good W
  fin:r.m.fin=0
  regs:OR r.regs
  len:r.regs.length=R
  j:r.j<=k.ins.length
  steps:q.m.steps<=r.m.steps
  eq:Ju call s fuel (k.ins.drop r.j) r.regs r.m=Ju call s fuel k.ins q.regs q.m
theorem FInv.unfold(h:FInv call s fuel f W R tgt q)(hk:f.blocks[q.i.toNat]?=some k):tgt=
 (bif (Ju call s fuel k.ins q.regs q.m).1 then
  (bif (CX fuel (Ju call s fuel k.ins q.regs q.m).2.2).1&& !(k.fin==3)then dZ call s fuel f (q.g-1) (k.next (Ju call s fuel k.ins q.regs q.m).2.1) (Ju call s fuel k.ins q.regs q.m).2.1 (CX fuel (Ju call s fuel k.ins q.regs q.m).2.2).2 else(CX fuel (Ju call s fuel k.ins q.regs q.m).2.2).2)
  else(Ju call s fuel k.ins q.regs q.m).2.2):=by
 have h1:=h.tgt;obtain⟨g,hg⟩: ∃g,q.g=g+1:=⟨q.g-1,by have:=h.g;omega⟩
 rw[hg]at h1 |-;rw[<-h1,dZ,hk];rfl
theorem IInv.head(hi:IInv call s fuel k q W R r){u:Tac}(hu:k.ins[r.j]?=some u):Ju call s fuel k.ins q.regs q.m=Ju call s fuel (u::k.ins.drop (r.j+1)) r.regs r.m:=by
 rw[<-hi.eq];have hl:=(List.getElem?_eq_some_iff.1 hu);obtain⟨h1,h2⟩:=hl;rw[List.drop_eq_getElem_cons h1,h2]
theorem IInv.next(hi:IInv call s fuel k q W R r)(hcg: ∀i m,m.good W->(call i m).good W)(hcs: ∀i m,m.steps<=(call i m).steps){u:Tac}(hu:k.ins[r.j]?=some u)(hw:Gc u.n)(hs:(CX fuel r.m).1=true)(hz:((mone call s u r.regs (CX fuel r.m).2).2.fin !=0)=false):
 IInv call s fuel k q W R ⟨r.j+1,(mone call s u r.regs (CX fuel r.m).2).1,(mone call s u r.regs (CX fuel r.m).2).2⟩:=by
 have hz':((mone call s u r.regs (CX fuel r.m).2).2.fin)=0:=by simpa using hz
 have hg:=XB (s:=s) hcg u hw hi.regs (Ns (fuel:=fuel) hi.good);refine⟨hg.2.2,hz',hg.1,hg.2.1.trans hi.len,(List.getElem?_eq_some_iff.1 hu).1,?_,?_⟩
 . exact Nat.le_trans hi.steps (Nat.le_trans (SL fuel r.m) (UG hcs u r.regs _))
 . rw[hi.head hu]
   grind[Ju,Gc,CX,mone]
theorem IInv.done(hi:IInv call s fuel k q W R r)(hj:k.ins.length<=r.j):Ju call s fuel k.ins q.regs q.m=(true,r.regs,r.m):=by
 rw[<-hi.eq,List.drop_eq_nil_of_le hj];rfl
theorem UF{m:Mach}(hs:(CX fuel m).1=true):(m.steps:Int)<fuel/\(CX fuel m).2={m with steps:=m.steps+1}:=by
 grind[CX]
theorem FInv.next(h:FInv call s fuel f W R tgt q)(hk:f.blocks[q.i.toNat]?=some k)(hi:IInv call s fuel k q W R r)(hj:k.ins.length<=r.j)(hs:(CX fuel r.m).1=true)(hf:(k.fin==3)=false)(hn:0<=k.next r.regs/\k.next r.regs<f.blocks.length):
 FInv call s fuel f W R tgt ⟨k.next r.regs,r.regs,(CX fuel r.m).2,q.g-1⟩/\q.g-1<q.g:=by
 obtain⟨h1,h2⟩:=UF hs;have hg:=h.g;have hgas:=h.gas;have hst:=hi.steps;refine⟨⟨Ns hi.good,by rw[h2];exact hi.fin,hi.regs,hi.len,hn,?_,?_,?_⟩,by omega⟩
 . grind
 . grind
 . rw[h.unfold hk,hi.done hj]
   grind
end
def kidx(k:List Int):List (List Int)->Option Nat
  | []=>none
  | x::r=>bif k==x then some 0 else(kidx k r).map (· +1)
def EZ(first:Int)(K:List (List Int))(k:List Int):Int×List (List Int):=
  match kidx k K with
  | some i=>(first+(i:Int),K)
  | none=>(first+(K.length:Int),K++[k])
theorem QY{k:List Int}: ∀{K:List (List Int)} {i:Nat},kidx k K=some i->i<K.length/\K[i]?=some k
 | [],i,h=>by cases h
 | x::r,i,h=>by
  unfold kidx at h
  cases hx:k==x with
  | true=>rw[hx]at h;cases h;exact⟨by simp,by simp at hx;simp[hx]⟩
  | false=>
   rw[hx]at h;simp only[cond_false,Option.map_eq_some_iff]at h;obtain⟨j,hj,rfl⟩:=h;obtain⟨h1,h2⟩:=QY hj;exact⟨by simp;omega,by simpa using h2⟩
def BV(first:Int)(K:List (List Int))(n:Int):Int×Bool:=
  bif decide (n<first)then(0,false)else(IntKind.u32.wrap (rget ((K[(n-first).toNat]?).getD []) 1),rget ((K[(n-first).toNat]?).getD []) 0==1)
def Dx(first:Int)(K:List (List Int))(op a b:Int):Int×List (List Int):=
  bif (BV first K a).2&&(BV first K b).2&&(DP op (BV first K a).1 (BV first K b).1).2==0 then EZ first K [1,(DP op (BV first K a).1 (BV first K b).1).1,0,0]
  else EZ first K [2,op,a,b]
structure VW where
  K:List (List Int)
  vals:List Int
  effs:List (List Int)
  time:Int
def VW.put(w:VW)(z:Int)(p:Int×List (List Int)):VW:={w with K:=p.2,vals:=AZ w.vals z p.1}
def VW.hap(w:VW)(t:Tac)(a b:Int):VW:={w with effs:=w.effs++[[2,t.op,t.base,t.size,a,b]]}
def VW.tick(w:VW):VW:={w with time:=w.time+1}
def YT(first:Int)(w:VW):Int×List (List Int):=EZ first w.K [4,(w.effs.length:Int),0,0]
def Mu(first:Int)(w:VW)(t:Tac):Bool:=(t.k==7||t.k==8)&&(!(BV first w.K (rget w.vals t.b)).2||(BV first w.K (rget w.vals t.b)).1==0)
def VW.div(first:Int)(w:VW)(t:Tac):VW:=bif Mu first w t then {w with effs:=w.effs++[[1,t.k,rget w.vals t.a,rget w.vals t.b,0,0]]}else w
def VW.bin(first:Int)(w:VW)(t:Tac):VW:=(w.div first t).put t.d (Dx first w.K t.k (rget w.vals t.a) (rget w.vals t.b))
def VW.step(first:Int)(w:VW)(t:Tac):VW:=
  bif t.op==1 then w.put t.d (EZ first w.K [1,t.n,0,0])
  else bif t.op==2 then {w with vals:=AZ w.vals t.d (rget w.vals t.a)}
  else bif t.op==3 then w.bin first t
  else bif t.op==4 then w.put t.d (EZ first w.K [3,t.base,w.time,0])
  else bif t.op==5 then(w.hap t (rget w.vals t.a) 0).tick
  else bif t.op==6 then(w.hap t (rget w.vals t.a) 0).put t.d (YT first (w.hap t (rget w.vals t.a) 0))
  else bif t.op==7 then(w.hap t (rget w.vals t.a) (rget w.vals t.b)).tick
  else bif t.op==8 then(w.hap t 0 0).put t.d (YT first (w.hap t 0 0))
  else bif t.op==9 then w.hap t (rget w.vals t.a) 0
  else bif t.op==10 then(w.hap t 0 0).tick
  else w
structure VOk(first:Int)(R m:Nat)(w:VW):Prop where
  f:0<=first/\first<=100000
  k4: ∀k∈w.K,k.length=4
  e6: ∀k∈w.effs,k.length=6
  kl:w.K.length<=m
  el:w.effs.length<=m
  tl:0<=w.time/\w.time<=m
  vl:w.vals.length=R
  v: ∀n∈w.vals,0<=n/\n<first+w.K.length
theorem JJ{first:Int}{K:List (List Int)}{k:List Int}(h: ∀k∈K,k.length=4)(hk:k.length=4)(hf:0<=first):
 (∀x∈(EZ first K k).2,x.length=4)/\K.length<=(EZ first K k).2.length/\(EZ first K k).2.length<=K.length+1/\0<=(EZ first K k).1/\(EZ first K k).1<first+(EZ first K k).2.length:=by
 unfold EZ
 cases e:kidx k K with
 | none=>
  refine⟨fun x hx=>?_,by simp,by simp,by dsimp only;omega,by simp;omega⟩;simp only[List.mem_append,List.mem_singleton]at hx;rcases hx with hx | rfl
  . exact h x hx
  . exact hk
 | some i=>
  have:=(QY e).1;exact⟨h,Nat.le_refl _,Nat.le_succ _,by dsimp only;omega,by dsimp only;omega⟩
theorem WP{first:Int}{K:List (List Int)}{op a b:Int}(h: ∀k∈K,k.length=4)(hf:0<=first):
 (∀x∈(Dx first K op a b).2,x.length=4)/\K.length<=(Dx first K op a b).2.length/\(Dx first K op a b).2.length<=K.length+1/\0<=(Dx first K op a b).1/\(Dx first K op a b).1<first+(Dx first K op a b).2.length:=by
 unfold Dx
 cases (BV first K a).2&&(BV first K b).2&&(DP op (BV first K a).1 (BV first K b).1).2==0 with
 | true=>exact JJ h rfl hf
 | false=>exact JJ h rfl hf
theorem VOk.mono{first:Int}{R m m':Nat}{w:VW}(h:VOk first R m w)(hm:m<=m'):VOk first R m' w:=
 ⟨h.f,h.k4,h.e6,Nat.le_trans h.kl hm,Nat.le_trans h.el hm,⟨h.tl.1,by have:=h.tl.2;omega⟩,h.vl,h.v⟩
theorem VOk.put{first:Int}{R m:Nat}{w:VW}(h:VOk first R m w)(z:Int){p:Int×List (List Int)}(hp:(∀x∈p.2,x.length=4)/\w.K.length<=p.2.length/\p.2.length<=w.K.length+1/\0<=p.1/\p.1<first+p.2.length):VOk first R (m+1) (w.put z p) where
 f:=h.f
 k4:=hp.1
 e6:=h.e6
 kl:=by have:=h.kl;show p.2.length<=_;omega
 el:=by have:=h.el;show w.effs.length<=_;omega
 tl:=⟨h.tl.1,by have:=h.tl.2;show w.time<=_;omega⟩
 vl:=by show(AZ w.vals z p.1).length=R;rw[BF];exact h.vl
 v:=fun n hn=>by
  have hn':n∈AZ w.vals z p.1:=hn;unfold AZ at hn';show 0<=n/\n<first+(p.2.length:Int)
  rcases List.mem_or_eq_of_mem_set hn' with hn' | rfl
  . have:=h.v n hn';omega
  . exact hp.2.2.2
theorem VOk.eff{first:Int}{R m:Nat}{w:VW}(h:VOk first R m w){x:List Int}(hx:x.length=6):VOk first R (m+1) {w with effs:=w.effs++[x]} where
 f:=h.f
 k4:=h.k4
 e6:=fun k hk=>by
  have hk':k∈w.effs++[x]:=hk;simp only[List.mem_append,List.mem_singleton]at hk';rcases hk' with hk' | rfl
  . exact h.e6 k hk'
  . exact hx
 kl:=by have:=h.kl;show w.K.length<=_;omega
 el:=by have:=h.el;show(w.effs++[x]).length<=_;simp;omega
 tl:=⟨h.tl.1,by have:=h.tl.2;show w.time<=_;omega⟩
 vl:=h.vl
 v:=h.v
theorem VOk.tick{first:Int}{R m:Nat}{w:VW}(h:VOk first R m w):VOk first R (m+1) w.tick where
 f:=h.f
 k4:=h.k4
 e6:=h.e6
 kl:=by have:=h.kl;show w.K.length<=_;omega
 el:=by have:=h.el;show w.effs.length<=_;omega
 tl:=⟨by have:=h.tl.1;show 0<=w.time+1;omega,by have:=h.tl.2;show w.time+1<=_;push_cast;omega⟩
 vl:=h.vl
 v:=h.v
theorem VOk.div{first:Int}{R m:Nat}{w:VW}(h:VOk first R m w)(t:Tac):VOk first R (m+1) (w.div first t):=by
 unfold VW.div
 cases Mu first w t with
 | true=>exact h.eff rfl
 | false=>exact h.mono (Nat.le_succ _)
theorem bz(first:Int)(w:VW)(t:Tac):(w.div first t).K=w.K:=by unfold VW.div;cases Mu first w t<;>rfl
theorem L4{l:List Int}{z:Int}(h:0<=z/\z<l.length):rget l z∈l:=by
 unfold rget;rw[List.getElem?_eq_getElem (by omega)];exact List.getElem_mem _
theorem VOk.step{first:Int}{R m:Nat}{w:VW}(h:VOk first R m w)(t:Tac)(ha:use1 t.op=true->0<=t.a/\t.a<R):VOk first R (m+2) (w.step first t):=by
 unfold VW.step;have hp:=fun(k:List Int) (hk:k.length=4)=>JJ (k:=k) h.k4 hk h.f.1
 cases t.op==1 with
 | true=>exact(h.put _ (hp _ rfl)).mono (Nat.le_succ _)
 | false=>
 cases h2:t.op==2 with
 | true=>
  have h2':t.op=2:=by simpa using h2
  refine VOk.mono (m:=m) ⟨h.f,h.k4,h.e6,h.kl,h.el,h.tl,?_,fun n hn=>?_⟩ (by omega)
  . show(AZ w.vals t.d _).length=R;rw[BF];exact h.vl
  . have hn':n∈AZ w.vals t.d (rget w.vals t.a):=hn;unfold AZ at hn';rcases List.mem_or_eq_of_mem_set hn' with hn' | rfl
    . exact h.v n hn'
    . have:=ha (by simp[use1,h2']);exact h.v _ (L4 (by rw[h.vl];exact this))
 | false=>
 cases t.op==3 with
 | true=>
  have h1:=h.div t;have:=WP (op:=t.k) (a:=rget w.vals t.a) (b:=rget w.vals t.b) h.k4 h.f.1;rw[<-bz first w t]at this;have h2:=h1.put t.d this;rw[bz]at h2;exact h2
 | false=>
 cases t.op==4 with
 | true=>exact(h.put _ (hp _ rfl)).mono (Nat.le_succ _)
 | false=>
 cases t.op==5 with
 | true=>exact VOk.tick (VOk.eff h rfl)
 | false=>
 cases t.op==6 with
 | true=>exact VOk.put (VOk.eff h rfl) _ (JJ (k:=[4,_,0,0]) h.k4 rfl h.f.1)
 | false=>
 cases t.op==7 with
 | true=>exact VOk.tick (VOk.eff h rfl)
 | false=>
 cases t.op==8 with
 | true=>exact VOk.put (VOk.eff h rfl) _ (JJ (k:=[4,_,0,0]) h.k4 rfl h.f.1)
 | false=>
 cases t.op==9 with
 | true=>exact(VOk.eff h rfl).mono (Nat.le_succ _)
 | false=>
 cases t.op==10 with
 | true=>exact VOk.tick (VOk.eff h rfl)
 | false=>exact h.mono (by omega)
theorem YV{k:List Int}{K:List (List Int)}{first:Int}(h:kidx k K=none):EZ first K k=(first+(K.length:Int),K++[k]):=by unfold EZ;rw[h]
theorem YU{k:List Int}{K:List (List Int)}{first:Int}{i:Nat}(h:kidx k K=some i):EZ first K k=(first+(i:Int),K):=by unfold EZ;rw[h]
theorem W2{k:Nat->Bool}(x:Int)(es:List (List AV))(h1:k 3=true)(h2:k 9=true):(AObj.row false 3 [[.int .i64 x,.map 3,D1 9 es]]).avoid k=true:=by
 have h:=B8 es h2;have g:(AV.map 3).avoid k=true:=h1;have g2:(AV.int .i64 x).avoid k=true:=rfl;simp only[AObj.avoid,List.all_cons,List.all_nil,h,g,g2,Bool.and_self]
theorem WJ{k:Nat->Bool}{v p:Nat}(es es2:List (List AV))(x:Int)(h1:k 4=true)(h2:k v=true)(h3:k p=true):(AObj.row false 4 [[.ptr 4 1 0 0,oh v es,D1 p es2,.int .i64 x]]).avoid k=true:=by
 have h:=B8 es2 h3;have h':=Is es h2;have g:(AV.ptr 4 1 0 0).avoid k=true:=h1;have g2:(AV.int .i64 x).avoid k=true:=rfl;simp only[AObj.avoid,List.all_cons,List.all_nil,h,h',g,g2,Bool.and_self]
theorem Mv{first:Int}{K:List (List Int)}{n:Int}(h:decide (n<first)=true):BV first K n=(0,false):=by unfold BV;rw[h];rfl
theorem YW{first:Int}{K:List (List Int)}{op a b:Int}(h1:(BV first K a).2=true)(h2:(BV first K b).2=true)(h3:((DP op (BV first K a).1 (BV first K b).1).2==0)=true):Dx first K op a b=EZ first K [1,(DP op (BV first K a).1 (BV first K b).1).1,0,0]:=by
 unfold Dx;rw[h1,h2,h3];rfl
theorem WT{first:Int}{K:List (List Int)}{op a b:Int}(h1:(BV first K a).2=false):Dx first K op a b=EZ first K [2,op,a,b]:=by
 unfold Dx;rw[h1];rfl
theorem WR{first:Int}{K:List (List Int)}{op a b:Int}(h1:(BV first K b).2=false):Dx first K op a b=EZ first K [2,op,a,b]:=by
 unfold Dx;rw[h1,Bool.and_false];rfl
theorem WQ{first:Int}{K:List (List Int)}{op a b:Int}(h3:((DP op (BV first K a).1 (BV first K b).1).2==0)=false):Dx first K op a b=EZ first K [2,op,a,b]:=by
 unfold Dx;rw[h3,Bool.and_false];rfl
structure i7(t:Tac)(R:Nat):Prop where
  d:setsOp t.op=true->0<=t.d/\t.d<R
  a:use1 t.op=true\/use2 t.op=true->0<=t.a/\t.a<R
  b:use2 t.op=true->0<=t.b/\t.b<R
  n:Gc t.n
def gP(l:List Int):List (List AV):=l.map fun n=>[AV.int .i64 n]
theorem RQ(l:List Int):(gP l).length=l.length:=List.length_map ..
theorem VOk.at{first:Int}{R m:Nat}{w:VW}(h:VOk first R m w){z:Int}(hz:0<=z/\z<R):0<=z/\z<w.vals.length/\z<((gP w.vals).length:Int)/\0<=rget w.vals z/\rget w.vals z<first+w.K.length:=by
 have h1:=h.vl;have h2:=h.v _ (L4 (z:=z) (by rw[h1];exact hz));rw[RQ,h1];exact⟨hz.1,hz.2,hz.2,h2.1,h2.2⟩
theorem gN{first:Int}{w:VW}{t:Tac}(ho:t.op=1):w.step first t=w.put t.d (EZ first w.K [1,t.n,0,0]):=by
 unfold VW.step;rw[ho];rfl
theorem gM{first:Int}{w:VW}{t:Tac}(ho:t.op=2):w.step first t={w with vals:=AZ w.vals t.d (rget w.vals t.a)}:=by
 unfold VW.step;rw[ho];rfl
theorem gL{first:Int}{w:VW}{t:Tac}(ho:t.op=3):w.step first t=w.bin first t:=by
 unfold VW.step;rw[ho];rfl
theorem gJ{first:Int}{w:VW}{t:Tac}(ho:t.op=4):w.step first t=w.put t.d (EZ first w.K [3,t.base,w.time,0]):=by
 unfold VW.step;rw[ho];rfl
theorem gI{first:Int}{w:VW}{t:Tac}(ho:t.op=5):w.step first t=(w.hap t (rget w.vals t.a) 0).tick:=by
 unfold VW.step;rw[ho];rfl
theorem gH{first:Int}{w:VW}{t:Tac}(ho:t.op=6):w.step first t=(w.hap t (rget w.vals t.a) 0).put t.d (YT first (w.hap t (rget w.vals t.a) 0)):=by
 unfold VW.step;rw[ho];rfl
theorem gG{first:Int}{w:VW}{t:Tac}(ho:t.op=7):w.step first t=(w.hap t (rget w.vals t.a) (rget w.vals t.b)).tick:=by
 unfold VW.step;rw[ho];rfl
theorem gF{first:Int}{w:VW}{t:Tac}(ho:t.op=8):w.step first t=(w.hap t 0 0).put t.d (YT first (w.hap t 0 0)):=by
 unfold VW.step;rw[ho];rfl
theorem gE{first:Int}{w:VW}{t:Tac}(ho:t.op=9):w.step first t=w.hap t (rget w.vals t.a) 0:=by
 unfold VW.step;rw[ho];rfl
theorem cS{first:Int}{w:VW}{t:Tac}(ho:t.op=10):w.step first t=(w.hap t 0 0).tick:=by
 unfold VW.step;rw[ho];rfl
def Cert.at'(c:Cert)(k:Int):List Bool:=(c.same[k.toNat]?).getD []
section
variable {R k : Nat}
end
section
variable {R : Nat} {old new : Block} {c : Cert} {i : Int} {next : List Int}
end
end Go.Proofs.YtbbfelelocccmaaGreat.Sv
