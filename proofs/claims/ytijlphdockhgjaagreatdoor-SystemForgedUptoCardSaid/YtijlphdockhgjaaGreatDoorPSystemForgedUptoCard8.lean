/-
  The law SystemForged of the given program answers true for every input of the bulk that is named, and leaves its arguments as they were; the package variables that it reads are tied to the program's text. Own work.
-/
import Derived.Test.YtijlphdockhgjaaGreatDoorPSystemForgedUptoCard7
import Derived.Test.YtijlphdockhgjaaGreatDoorPSystemForgedUptoCard4
import Derived.Test.YtijlphdockhgjaaGreatDoorPSystemForgedUptoCard2
import Derived.Test.YtijlphdockhgjaaGreatDoorPSystemForgedUptoCard6
import Derived.Test.YtijlphdockhgjaaGreatDoorPSystemForgedUptoCard3
import Derived.Test.YtijlphdockhgjaaGreatDoorRows
import Derived.JoinedOf
import Derived.KernelRfl
import Derived.Test.YtijlphdockhgjaaGreatDoorCards
import Derived.Test.YtijlphdockhgjaaGreatDoorTie
set_option linter.unusedVariables false
set_option linter.unusedSimpArgs false
set_option maxRecDepth 100000
set_option maxHeartbeats 2000000
namespace Go.Proofs.YtijlphdockhgjaaGreatDoor.Sv
open Go
def Ic:Option (List Int)->AObj
  |some (x::l)=>.row true 1 (Ap (x::l))
  |_=>.free
def hg(base:Aa)(R:List (Option (List Int))):Aa:=fun c=>bif Nat.ble 16 c then some (Ic ((R[c-16]?).getD none))else base c
theorem Mo(base:Aa)(R:List (Option (List Int)))(g:Nat):hg base R (g+16)=some (Ic ((R[g]?).getD none)):=by
 unfold hg;have:Nat.ble 16 (g+16)=true:=Nat.ble_eq.mpr Ab;rw[this,Nat.add_sub_cancel];rfl
theorem Zr(base:Aa)(R:List (Option (List Int))){c:Nat}(h:c<16):hg base R c=base c:=by
 unfold hg;have:Nat.ble 16 c=false:=by
  cases e:Nat.ble 16 c with
  |false=>rfl
  |true=>have:=Nat.ble_eq.mp e;omega
 rw[this];rfl
def P5(R:List (Option (List Int)))(f:Nat):List AV:=match(R[f]?).getD none with
  |some l=>[LM (f+16) l.length]
  |none=>[.nil]
def Co(R:List (Option (List Int))):List (List AV):=(List.range R.length).map (P5 R)
theorem Db(R:List (Option (List Int))):(Co R).length=R.length:=by simp[Co]
theorem EX{R:List (Option (List Int))}{f:Nat}(h:f<R.length):(Co R)[f]?=some (P5 R f):=by simp[Co,h]
theorem JM{R:List (Option (List Int))}{f:Nat}{l:List Int}(h:R[f]?=some (some l)):P5 R f=[LM (f+16) l.length]:=by simp[P5,h]
theorem NE{R:List (Option (List Int))}{f:Nat}(h:R[f]?=some none):P5 R f=[.nil]:=by simp[P5,h]
theorem LD{R:List (Option (List Int))}{f:Nat}(l:List Int)(h:f<R.length):Co (R.set f (some l))=(Co R).set f [LM (f+16) l.length]:=by
 apply List.ext_getElem?;intro j
 by_cases hj:j<R.length
 . rw[EX (by simpa using hj)]
   by_cases hjf:f=j
   . subst hjf;rw[List.getElem?_set_self (by rw[Db];exact hj),JM (List.getElem?_set_self hj)]
   . rw[List.getElem?_set_ne hjf,EX hj];unfold P5;rw[List.getElem?_set_ne hjf]
 . rw[List.getElem?_eq_none (by rw[Db];simpa using hj),List.getElem?_eq_none (by rw[List.length_set,Db];omega)]
theorem Qh{R:List (Option (List Int))}{f:Nat}{l l':List Int}(h:R[f]?=some (some l))(hl:l'.length=l.length):Co (R.set f (some l'))=Co R:=by
 have hlt:=(List.getElem?_eq_some_iff.1 h).1;rw[LD l' hlt];exact GW (by rw[EX hlt,JM h,hl])
def KH(h:Aa)(c n:Nat):Aa:=if n=0 then h else Al h c (.row true 1 (Ap (List.replicate n 0)))
theorem Iq{h:Aa}{c n x:Nat}{r:Option AObj}(hne:x≠c)(hr:h x=r):KH h c n x=r:=by
 unfold KH;split
 . exact hr
 . rw[Ax _ _ hne];exact hr
theorem Hg{h:Aa}{k x:Nat}{r:Option AObj}(hne:x≠k)(hr:h x=r):hrm h k x=r:=by rw[Hi _ hne];exact hr
theorem Rk(h:Aa)(b:Blocks)(F:BFunc)(f0 nf k n:Nat)(x1 x3 x4 x5:AV)(R:List (Option (List Int)))(hh0:h 0=some (.row false 6 [[AT b.funcs,x1,.ref 2 nf 0 nf,x3,x4,x5]]))(hh2:h 2=some (.row false 1 (Co R)))(hnt:nf=R.length)(hfn:f0<nf)(hF:b.funcs[f0]?=some F)(hreg:F.regs=(n:Int))(hn4:n<=4000)
 (hfree:h k=some .free) (hk:k≠0/\k≠2/\k≠f0+16) (hR:∀l,R[f0]?=some (some l)->l.length=n) (hhr:h (f0+16)=some (Ic ((R[f0]?).getD none))) {z:Int} (hz:z=(f0:Int)):
 ACall Tryz.prog 20 [.ptr 0 1 0 0,.int .i64 z] h (fun r h''=>r=.agg [.int .i64 z,.int .i64 0,.int .i64 0,LM (f0+16) n]/\HSub (KH (Al (hrm h k) 2 (.row false 1 (Co (R.set f0 (some (List.replicate n 0)))))) (f0+16) n) h''):=by
 subst hz;have hlt:f0<R.length:=by omega
 have hset:=LD (R:=R) (f:=f0) (List.replicate n 0) hlt;rw[List.length_replicate]at hset;rw[hset];have hnt':nf=(Co R).length:=by rw[Db];exact hnt
 have hfn':((f0:Nat):Int)<((nf:Nat):Int):=by omega
 have hg:=EX hlt;obtain⟨o,ho⟩:=Ag hlt;rw[ho,Option.getD_some]at hhr
 cases o with
 |none=>
  rw[NE ho]at hg
  by_cases hn0:n=0
  . subst hn0;exact Wq h b F f0 nf k 0 x1 x3 x4 x5 (Co R) hh0 hh2 hnt' hfn' hF hreg hn4 hfree hk hg rfl
  . have hpos:0<n:=by omega
    have:=Wp h b F f0 nf k n x1 x3 x4 x5 (Co R) hh0 hh2 hnt' hfn' hF hreg hn4 hfree hk hg hpos hhr;rw[<-IX (rb:=f0+16) hpos]at this;unfold KH;rw[if_neg hn0];exact this
 |some l=>
  have hl:=hR l ho;rw[JM ho,hl]at hg
  by_cases hn0:n=0
  . subst hn0;exact Wo h b F f0 nf k 0 x1 x3 x4 x5 (Co R) hh0 hh2 hnt' hfn' hF hreg hn4 hfree hk hg rfl
  . have hpos:0<n:=by omega
    rw[IX hpos]at hg|-;have hro:Ic (some l)=.row true 1 (Ap l):=by
     cases l with
     |nil=>simp at hl;omega
     |cons a r=>rfl
    have:=Wn h b F f0 nf k n x1 x3 x4 x5 (Co R) hh0 hh2 hnt' hfn' hF hreg hn4 hfree hk hg hpos l hl (by rw[hhr,hro]);unfold KH;rw[if_neg hn0];exact this
def kap:Nat->Bool:=fun c=>Nat.blt c 8||Nat.ble 15 c
def dw:Aa:=fun c=>bif Nat.blt c 8 then none else bif Nat.ble 15 c then none else some .free
theorem jm(g:Nat):kap (g+16)=true:=by
 unfold kap;have:Nat.ble 15 (g+16)=true:=Nat.ble_eq.mpr Ab;rw[this,Bool.or_true]
theorem LL(g n:Nat):(LM (g+16) n).avoid kap=true:=by
 cases n with
 |zero=>rfl
 |succ n=>exact jm g
def Fk(b:Blocks)(f:Nat):Nat:=match b.funcs[f]? with
  |some F=>F.regs.toNat
  |none=>0
def K6(b:Blocks)(fr:F7):List AV:=[.int .i64 (fr.f:Int),.int .i64 fr.blk,.int .i64 (fr.at':Int),LM (fr.f+16) (Fk b fr.f)]
abbrev gj(b:Blocks)(s:ByteArray)(m:Mach)(R:List (Option (List Int)))(now:F7)(es:List F7)(h0:Aa):Aa:=
  Al (Al (Al (Al (Al (Al (Al (Al h0 0 (.row false 6 [Jw (AT b.funcs) (.ref 2 b.funcs.length 0 b.funcs.length) b.words.toNat s m])) 1 (.row true 1 (Ap m.words))) 2 (.row false 1 (Co R))) 3 (.row true 1 (AH m.out)))
    4 (.row false 2 [b.cells])) 5 (.row false 3 [[.int .i64 0,.str ⟨#[]⟩,.int .i64 0]])) 6 (.row false 4 [K6 b now])) 7 (.row false 4 (es.map (K6 b)))
def GO(b:Blocks)(s:ByteArray)(m:Mach)(R:List (Option (List Int)))(now:F7)(es:List F7):Aa:=hg (gj b s m R now es dw) R
theorem Wb{c:Nat}(h:8<=c/\c<15):dw c=some .free:=by
 unfold dw;have h1:Nat.blt c 8=false:=by
  exact eM
 have h2:Nat.ble 15 c=false:=by
  exact eQ
 rw[h1,h2];rfl
theorem N7{c:Nat}(hc:kap c=false):8<=c/\c<15:=by
 unfold kap at hc;simp only[Bool.or_eq_false_iff]at hc;obtain⟨a1,a2⟩:=hc;refine⟨?_,?_⟩
 . rcases Nat.lt_or_ge c 8 with h|h
   . rw[Nat.blt_eq.mpr h]at a1;cases a1
   . exact h
 . rcases Nat.lt_or_ge c 15 with h|h
   . exact h
   . rw[Nat.ble_eq.mpr h]at a2;cases a2
theorem O8{b:Blocks}{s:ByteArray}{m:Mach}{R:List (Option (List Int))}{now:F7}{es:List F7}{c:Nat}(h:8<=c)(h2:c<16):GO b s m R now es c=dw c:=by
 unfold GO;rw[Zr _ _ h2];unfold gj;rw[Ax _ _ Ab,Ax _ _ Ab,Ax _ _ Ab,Ax _ _ Ab,Ax _ _ Ab,Ax _ _ Ab,Ax _ _ Ab,Ax _ _ Ab]
theorem J0(b:Blocks)(s:ByteArray)(m:Mach)(R:List (Option (List Int)))(now:F7)(es:List F7):∀c,kap c=false->GO b s m R now es c=some .free:=fun c hc=>by
 have h1:=N7 hc;rw[O8 h1.1 Ab];exact Wb h1
theorem FV{b:Blocks}{s:ByteArray}{m:Mach}{R:List (Option (List Int))}{now:F7}{es:List F7}{h':Aa}(a0:h' 0=some (.row false 6 [Jw (AT b.funcs) (.ref 2 b.funcs.length 0 b.funcs.length) b.words.toNat s m]))(a1:h' 1=some (.row true 1 (Ap m.words)))(a2:h' 2=some (.row false 1 (Co R)))(a3:h' 3=some (.row true 1 (AH m.out)))
 (a4:h' 4=some (.row false 2 [b.cells])) (a5:h' 5=some (.row false 3 [[.int .i64 0,.str ⟨#[]⟩,.int .i64 0]])) (a6:h' 6=some (.row false 4 [K6 b now])) (a7:h' 7=some (.row false 4 (es.map (K6 b)))) (ar:∀g,h' (g+16)=some (Ic ((R[g]?).getD none))):
 ∀c o,kap c=true->GO b s m R now es c=some o->h' c=some o:=fun c o hc ho=>by
 by_cases h16:16<=c
 . obtain⟨g,rfl⟩:∃g,c=g+16:=⟨c-16,by omega⟩
   rw[ar g,<-ho];exact(Mo _ _ g).symm
 . by_cases h8:c<8
   . unfold GO at ho;rw[Zr _ _ Ab]at ho
     match c,h8,ho with
     |0,_,ho=>cases ho;exact a0
     |1,_,ho=>cases ho;exact a1
     |2,_,ho=>cases ho;exact a2
     |3,_,ho=>cases ho;exact a3
     |4,_,ho=>cases ho;exact a4
     |5,_,ho=>cases ho;exact a5
     |6,_,ho=>cases ho;exact a6
     |7,_,ho=>cases ho;exact a7
     |n+8,h,_=>exact absurd h Ab
   . rw[O8 Ab Ab]at ho;have h15:c=15:=by
      rcases Nat.lt_or_ge c 15 with h|h
      . unfold kap at hc;simp only[Bool.or_eq_true]at hc;rcases hc with hc|hc
        . have:=Nat.blt_eq.mp hc;omega
        . have:=Nat.ble_eq.mp hc;omega
      . omega
     subst h15
     cases ho
theorem Sd(R:List (Option (List Int))):(AObj.row false 1 (Co R)).avoid kap=true:=by
 refine List.all_eq_true.2 fun cs hcs=>?_
 simp only[Co,List.mem_map]at hcs;obtain⟨f,_,rfl⟩:=hcs;unfold P5
 cases (R[f]?).getD none with
 |none=>rfl
 |some l=>simp only[List.all_cons,List.all_nil,Bool.and_true];exact LL f l.length
theorem Q9(b:Blocks)(fr:F7):(K6 b fr).all (AV.avoid kap)=true:=by
 simp only[K6,List.all_cons,List.all_nil,Bool.and_true,LL];rfl
theorem ZJ(b:Blocks)(es:List F7):(AObj.row false 4 (es.map (K6 b))).avoid kap=true:=by
 refine List.all_eq_true.2 fun cs hcs=>?_
 simp only[List.mem_map]at hcs;obtain⟨f,_,rfl⟩:=hcs;exact Q9 b f
theorem So(o:Option (List Int)):(Ic o).avoid kap=true:=by
 unfold Ic;split<;>rfl
theorem FW{b:Blocks}{s:ByteArray}{m:Mach}{R:List (Option (List Int))}{now:F7}{es:List F7}{h':Aa}(hs:∀c o,kap c=true->GO b s m R now es c=some o->h' c=some o):PC kap (GO b s m R now es) h':=fun c o hc=>by
 cases hk:kap c with
 |false=>
  rw[J0 b s m R now es c hk]at hc
  cases hc
  exact .inr ⟨rfl,rfl⟩
 |true=>
  refine .inl ⟨hs c o hk hc,fun _=>⟨rfl,?_⟩⟩
  by_cases h16:16<=c
  . obtain⟨g,rfl⟩:∃g,c=g+16:=⟨c-16,by omega⟩
    unfold GO at hc;rw[Mo]at hc
    cases hc
    exact So _
  . by_cases h8:c<8
    . unfold GO at hc;rw[Zr _ _ Ab]at hc
      match c,h8,hc with
      |0,_,hc=>cases hc;rfl
      |1,_,hc=>cases hc;rfl
      |2,_,hc=>cases hc;exact Sd R
      |3,_,hc=>cases hc;rfl
      |4,_,hc=>cases hc;rfl
      |5,_,hc=>cases hc;rfl
      |6,_,hc=>cases hc;simp only[AObj.avoid,List.all_cons,List.all_nil,Bool.and_true];exact Q9 b now
      |7,_,hc=>cases hc;exact ZJ b es
      |n+8,h,_=>exact absurd h Ab
    . rw[O8 Ab Ab]at hc;have h15:c=15:=by
       rcases Nat.lt_or_ge c 15 with h|h
       . rw[show kap c=false from ?_]at hk
         . cases hk
         . unfold kap;have e1:Nat.blt c 8=false:=by
            exact eM
           have e2:Nat.ble 15 c=false:=by
            exact eQ
           rw[e1,e2];rfl
       . omega
      subst h15
      cases hc
theorem SI{b:Blocks}{s:ByteArray}{m:Mach}{R:List (Option (List Int))}{now:F7}{es:List F7}{h':Aa}(hs:∀c o,kap c=true->GO b s m R now es c=some o->h' c=some o)(hf:∀c,8<=c->c<15->h' c=some .free):HSub (GO b s m R now es) h':=fun c o hc=>by
 cases hk:kap c with
 |false=>
  have h1:=N7 hk;rw[J0 b s m R now es c hk]at hc
  cases hc
  exact hf c h1.1 h1.2
 |true=>exact hs c o hk hc
theorem Qi(n:Nat):Co (List.replicate n none)=List.replicate n [.nil]:=by
 apply List.ext_getElem?;intro j
 by_cases hj:j<n
 . rw[EX (by simpa using hj),NE (by simp[hj]),List.getElem?_replicate,if_pos hj]
 . rw[List.getElem?_eq_none (by rw[Db];simp;omega),List.getElem?_eq_none FI]
theorem Qn(n f:Nat):Ic (((List.replicate n (none:Option (List Int)))[f]?).getD none)=.free:=by
 rw[List.getElem?_replicate];split<;>rfl
theorem HC{l:List Int}(h:0<l.length):Ic (some l)=.row true 1 (Ap l):=by
 cases l with
 |nil=>simp at h
 |cons a r=>rfl
theorem jQ(h:Aa)(f0 W R nn:Nat)(x0 x2:AV)(s:ByteArray)(t:Tac)(regs:List Int)(m:Mach)(ht:UB t nn R W)(hr:Kg regs)(hlen:regs.length=R)(hm:m.good W)(h0:m.fin=0)(hW:W<=1048576)(hs:s.size<=9223372036854775807)(hwn:Hf t.n)(h10:t.op≠10)(hpos:0<R)
 (hh0:h 0=some (.row false 6 [Jw x0 x2 W s m])) (hh1:h 1=some (.row true 1 (Ap m.words))) (hh3:h 3=some (.row true 1 (AH m.out))) (hhr:h (f0+16)=some (.row true 1 (Ap regs))):
 ACall Tryz.prog 21 [.ptr 0 1 0 0,.loc t.cells,LM (f0+16) R] h (fun r h''=>r=.int .i64 (AB (fun _ m=>m) s t regs m).2.fin/\
  HSub (Al (Al (Al (Al h 0 (.row false 6 [Jw x0 x2 W s (AB (fun _ m=>m) s t regs m).2])) 1 (.row true 1 (Ap (AB (fun _ m=>m) s t regs m).2.words))) 3 (.row true 1 (AH (AB (fun _ m=>m) s t regs m).2.out))) (f0+16) (.row true 1 (Ap (AB (fun _ m=>m) s t regs m).1))) h''):=by
 rw[IX hpos];exact uT h f0 W R nn x0 x2 s t regs m ht hr hlen hm h0 hW hs hwn h10 hh0 hh1 hh3 hhr
theorem XB{t:Tac}{nn R W:Nat}(ht:UB t nn R W)(h10:t.op≠10):0<R:=by
 have h1:=ht.op
 by_cases hs:setsOp t.op=true
 . have:=ht.d hs;omega
 . by_cases hu:use1 t.op=true\/use2 t.op=true
   . have:=ht.a hu;omega
   . exfalso;have:t.op=1\/t.op=2\/t.op=3\/t.op=4\/t.op=5\/t.op=6\/t.op=7\/t.op=8\/t.op=9:=by omega
     rcases this with h|h|h|h|h|h|h|h|h<;>simp[setsOp,use1,use2,h]at hs hu
theorem Fl{s:ByteArray}{t:Tac}{regs:List Int}{m:Mach}(h10:t.op≠10):(AB (fun _ m=>m) s t regs m).2.steps=m.steps:=by
 unfold AB
 cases t.op==1 with
 |true=>rfl
 |false=>
 cases t.op==2 with
 |true=>rfl
 |false=>
 cases t.op==3 with
 |true=>simp only[cond_true,cond_false];cases (B1 t.k (Ah regs t.a) (Ah regs t.b)).2==0<;>rfl
 |false=>
 cases t.op==4 with
 |true=>rfl
 |false=>
 cases t.op==5 with
 |true=>rfl
 |false=>
 cases t.op==6 with
 |true=>simp only[cond_true,cond_false];cases decide (Ah regs t.a>=t.size)<;>rfl
 |false=>
 cases t.op==7 with
 |true=>simp only[cond_true,cond_false];cases decide (Ah regs t.a>=t.size)<;>rfl
 |false=>
 cases t.op==8 with
 |true=>simp only[cond_true,cond_false];cases decide (m.read<s.size)<;>rfl
 |false=>
 cases t.op==9 with
 |true=>simp only[cond_true,cond_false];cases decide (m.out.length>=65536)<;>rfl
 |false=>
  cases t.op==10<;>rfl
def HU(es:List F7)(len:Nat)(fr:F7):List F7:=if len<es.length then es.set len fr else es++[fr]
theorem NS{b:Blocks}{es:List F7}{len:Nat}{fr:F7}:(HU es len fr).map (K6 b)=G5 (es.map (K6 b)) len (K6 b fr):=by
 unfold HU G5;rw[List.length_map];split
 . rw[List.map_set]
 . simp
theorem Su{es:List F7}{len:Nat}{fr:F7}(h:len<=es.length):(HU es len fr).take (len+1)=es.take len++[fr]:=by
 unfold HU;split
 . rename_i hlt;rw[AR (List.getElem?_set_self hlt),List.take_set_of_le (Nat.le_refl _)]
 . have:len=es.length:=by omega
   subst this;rw[List.take_of_length_le Az,List.take_of_length_le (Nat.le_refl _)]
theorem Vy{es:List F7}{len:Nat}{fr:F7}(h:len<=es.length):len+1<=(HU es len fr).length/\(HU es len fr).length<=es.length+1:=by
 unfold HU;split<;>simp<;>omega
structure yn where
  q:vi
  es:List F7
structure RInvB(b:Blocks)(s:ByteArray)(fuel:Int)(tgt:Mach)(r:yn):Prop where
  inv:SInv b s fuel b.words.toNat tgt r.q
  take:r.es.take r.q.above.length=r.q.above
  len:r.q.above.length<=r.es.length
  max:r.es.length<=r.q.m.steps
  rl:∀(f:Nat) (F:BFunc) (l:List Int),b.funcs[f]?=some F->r.q.R[f]?=some (some l)->l.length=F.regs.toNat
theorem RInvB.set{b:Blocks}{R:List (Option (List Int))}(h:∀(f:Nat) (F:BFunc) (l:List Int),b.funcs[f]?=some F->R[f]?=some (some l)->l.length=F.regs.toNat){f0:Nat}{G:BFunc}{l0:List Int}(hG:b.funcs[f0]?=some G)(hl0:l0.length=G.regs.toNat):
 ∀(f:Nat) (F:BFunc) (l:List Int),b.funcs[f]?=some F->(R.set f0 (some l0))[f]?=some (some l)->l.length=F.regs.toNat:=fun f F l hF hl=>by
 by_cases hf:f0=f
 . subst hf;rw[hG]at hF;cases hF;rw[List.getElem?_set]at hl;split at hl
   . split at hl
     . cases hl;exact hl0
     . cases hl
   . rename_i h1;exact absurd rfl h1
 . rw[List.getElem?_set_ne hf]at hl;exact h f F l hF hl
theorem FSq{b:Blocks}{f:Nat}{F:BFunc}(h:b.funcs[f]?=some F):Fk b f=F.regs.toNat:=by simp[Fk,h]
theorem j6{R:List (Option (List Int))}{f:Nat}{l:List Int}{h' h:Aa}(hf:f<R.length)(hl:0<l.length)(h1:h' (f+16)=some (.row true 1 (Ap l)))(h2:∀g,g≠f->h' (g+16)=h (g+16))(h3:∀g,h (g+16)=some (Ic ((R[g]?).getD none))):∀g,h' (g+16)=some (Ic (((R.set f (some l))[g]?).getD none)):=fun g=>by
 by_cases hg:g=f
 . subst hg;rw[h1,List.getElem?_set_self hf,Option.getD_some,HC hl]
 . rw[h2 g hg,h3 g,List.getElem?_set_ne (Ne.symm hg)]
theorem d5{R:List (Option (List Int))}{f n:Nat}{h' h h0:Aa}(hf:f<R.length)(hR:∀l,R[f]?=some (some l)->l.length=n)(h1:∀g,h' (g+16)=KH h0 (f+16) n (g+16))(h2:∀g,h0 (g+16)=some (Ic ((R[g]?).getD none))):∀g,h' (g+16)=some (Ic (((R.set f (some (List.replicate n 0)))[g]?).getD none)):=fun g=>by
 rw[h1 g];unfold KH
 by_cases hn:n=0
 . rw[if_pos hn,h2 g];subst hn
   by_cases hg:f=g
   . subst hg;rw[List.getElem?_set_self hf]
     cases e:R[f]? with
     |none=>rfl
     |some o=>cases o with
      |none=>rfl
      |some l=>
       have:=hR l e
       cases l with
       |nil=>rfl
       |cons a r=>simp at this
   . rw[List.getElem?_set_ne hg]
 . rw[if_neg hn]
   by_cases hg:g=f
   . subst hg;rw[Au,List.getElem?_set_self hf,Option.getD_some,HC FI]
   . rw[Ax _ _ Ab,h2 g,List.getElem?_set_ne (Ne.symm hg)]
section
variable {b : Blocks} {s : ByteArray} {fuel : Int} {tgt : Mach} {r : yn}
theorem RInvB.first{b:Blocks}(hb:b.right=true){s:ByteArray}{fuel:Int}{F:BFunc}(hF:b.funcs[b.funcs.length-1]?=some F):
 RInvB b s (Cb fuel) (mfun b s (Cb fuel) b.funcs.length ((b.funcs.length:Int)-1) (m0 b)) ⟨⟨⟨b.funcs.length-1,0,0⟩,[],(List.replicate b.funcs.length none).set (b.funcs.length-1) (some (List.replicate (Fk b (b.funcs.length-1)) 0)),m0 b⟩,[]⟩:=by
 have h:=Tq hb s fuel hF;have hn:=FSq hF;unfold q0 at h;rw[<-hn]at h;refine⟨h,rfl,Nat.le_refl _,Nat.zero_le _,RInvB.set (fun f F l _ hl=>?_) hF (by simp[hn])⟩;rw[List.getElem?_replicate]at hl;split at hl<;>cases hl
theorem Jd{n:Nat}(h:n<fuel.toNat):fuel.toNat-(n+1)<fuel.toNat-n:=by omega
theorem YN{n n':Nat}(h:n<fuel.toNat)(h':n'=n+1):fuel.toNat-n'<fuel.toNat-n:=by omega
theorem RInvB.ins(h:RInvB b s fuel tgt r){F:BFunc}{k:Block}{t:Tac}{l:List Int}(h1:b.funcs[r.q.now.f]?=some F)(h2:F.blocks[r.q.now.blk.toNat]?=some k)(ht:k.ins[r.q.now.at']?=some t)(hw:Hf t.n)(hl:r.q.R[r.q.now.f]?=some (some l))(hf:decide ((r.q.m.steps:Int)>=fuel)=false)(h10:t.op≠10)
 (he:(AB (fun _ m=>m) s t l {r.q.m with steps:=r.q.m.steps+1}).2.fin=0) (hll:l.length=F.regs.toNat):
 RInvB b s fuel tgt ⟨⟨⟨r.q.now.f,r.q.now.blk,r.q.now.at'+1⟩,r.q.above,r.q.R.set r.q.now.f (some (AB (fun _ m=>m) s t l {r.q.m with steps:=r.q.m.steps+1}).1),(AB (fun _ m=>m) s t l {r.q.m with steps:=r.q.m.steps+1}).2⟩,r.es⟩:=by
 have hst:=Fl (s:=s) (t:=t) (regs:=l) (m:={r.q.m with steps:=r.q.m.steps+1}) h10;obtain⟨F',k',l',g1,g2,g3,g4,g5,g6,g7⟩:=h.inv.now.ex;rw[hl]at g5;cases g5;have hg:=(JY (call:=fun _ m=>m) (s:=s) (fun _ _ h=>h) t hw g7 (D5 h.inv.good)).2.1;exact⟨h.inv.ins h1 h2 ht hw hl hf h10 he hst,h.take,h.len,by show r.es.length<=_;rw[hst];have:=h.max;show _<=r.q.m.steps+1;omega,RInvB.set h.rl h1 (by rw[hg];exact hll)⟩
theorem RInvB.call(hb:b.right=true)(h:RInvB b s fuel tgt r){F:BFunc}{k:Block}{t:Tac}(h1:b.funcs[r.q.now.f]?=some F)(h2:F.blocks[r.q.now.blk.toNat]?=some k)(ht:k.ins[r.q.now.at']?=some t)(hf:decide ((r.q.m.steps:Int)>=fuel)=false)(h10:t.op=10){f0:Nat}(hf0:t.base=(f0:Int)){G:BFunc}(hG:b.funcs[f0]?=some G):
 RInvB b s fuel tgt ⟨⟨⟨f0,0,0⟩,r.q.above++[⟨r.q.now.f,r.q.now.blk,r.q.now.at'+1⟩],r.q.R.set f0 (some (List.replicate (Fk b f0) 0)),{r.q.m with steps:=r.q.m.steps+1}⟩,HU r.es r.q.above.length ⟨r.q.now.f,r.q.now.blk,r.q.now.at'+1⟩⟩:=by
 have hbt:t.base.toNat=f0:=by omega
 have h0:=h.inv.call hb rfl h1 h2 ht hf h10 (G:=G) (by rw[hbt];exact hG);rw[hbt,<-FSq hG]at h0;have hp:=Vy (fr:=⟨r.q.now.f,r.q.now.blk,r.q.now.at'+1⟩) h.len;refine⟨h0,?_,?_,?_,RInvB.set h.rl hG (by rw[FSq hG];simp)⟩
 . show List.take (r.q.above++[_]).length _=_;rw[List.length_append,List.length_singleton,Su h.len,h.take]
 . show(r.q.above++[_]).length<=_;rw[List.length_append,List.length_singleton];exact hp.1
 . exact Nat.le_trans hp.2 (Nat.succ_le_succ h.max)
theorem RInvB.jump(hb:b.right=true)(h:RInvB b s fuel tgt r){F:BFunc}{k:Block}{l:List Int}(h1:b.funcs[r.q.now.f]?=some F)(h2:F.blocks[r.q.now.blk.toNat]?=some k)(hat:k.ins.length<=r.q.now.at')(hl:r.q.R[r.q.now.f]?=some (some l))(hf:decide ((r.q.m.steps:Int)>=fuel)=false)(h3:(k.fin==3)=false){to:Int}(hto:k.next l=to):
 RInvB b s fuel tgt ⟨⟨⟨r.q.now.f,to,0⟩,r.q.above,r.q.R,{r.q.m with steps:=r.q.m.steps+1}⟩,r.es⟩:=
 ⟨h.inv.jump hb h1 h2 hat hl hf h3 hto,h.take,h.len,Nat.le_succ_of_le h.max,h.rl⟩
theorem WI(h:RInvB b s fuel tgt r){fr:F7}(ha:r.q.above.getLast?=some fr):(r.es.map (K6 b))[0+(((r.q.above.length-1:Nat)):Int).toNat]?=some (K6 b fr):=by
 have hpos:0<r.q.above.length:=by
  cases e:r.q.above with
  |nil=>rw[e]at ha;simp at ha
  |cons x y=>simp
 have h1:r.q.above[r.q.above.length-1]?=some fr:=by rw[<-List.getLast?_eq_getElem?];exact ha
 have ht:=h.take;have h2:r.es[r.q.above.length-1]?=some fr:=by
  rw[<-ht,List.getElem?_take_of_lt (by rw[ht];omega),ht]at h1;exact h1
 rw[Nat.zero_add,Int.toNat_natCast,List.getElem?_map,h2];rfl
theorem RInvB.ret(h:RInvB b s fuel tgt r){F:BFunc}{k:Block}{fr:F7}(h1:b.funcs[r.q.now.f]?=some F)(h2:F.blocks[r.q.now.blk.toNat]?=some k)(hat:k.ins.length<=r.q.now.at')(hf:decide ((r.q.m.steps:Int)>=fuel)=false)(h3:(k.fin==3)=true)(ha:r.q.above.getLast?=some fr):
 RInvB b s fuel tgt ⟨⟨fr,r.q.above.dropLast,r.q.R,{r.q.m with steps:=r.q.m.steps+1}⟩,r.es⟩:=by
 have hl:=h.len;refine⟨h.inv.ret h1 h2 hat hf h3 ha,?_,by simp only[List.length_dropLast];omega,Nat.le_succ_of_le h.max,h.rl⟩;simp only[List.length_dropLast];conv=>rhs;rw[<-h.take]
 rw[MI hl]
end
theorem S7{k:Block}{n r:Int}(h:k.ends n r=true):k.fin=1\/k.fin=2\/k.fin=3:=by
 unfold Block.ends at h
 cases e1:k.fin==1 with
 |true=>exact .inl (by simpa using e1)
 |false=>
  cases e2:k.fin==2 with
  |true=>exact .inr (.inl (by simpa using e2))
  |false=>
   rw[e1,e2]at h;simp only[cond_false,Bool.and_eq_true,beq_iff_eq]at h;exact .inr (.inr h.1)
theorem S1{α:Type}{l:List α}(h:0<l.length):∃x,l.getLast?=some x:=by
 rw[List.getLast?_eq_getElem?];exact Ag Ab
theorem uo{k:Block}(h:k.fin=1)(l:List Int):k.next l=k.to:=by simp[Block.next,h]
theorem jd{k:Block}{l:List Int}(h:k.fin=2)(hz:(Ah l k.v !=0)=true):k.next l=k.to:=by
 have:(Ah l k.v==0)=false:=by simpa using hz
 simp[Block.next,h,this]
theorem je{k:Block}{l:List Int}(h:k.fin=2)(hz:(Ah l k.v !=0)=false):k.next l=k.els:=by
 have:(Ah l k.v==0)=true:=by simpa using hz
 simp[Block.next,h,this]
theorem VJ{b:Blocks}{s:ByteArray}{fuel:Int}{m:Mach}(h:mfun b s (Cb fuel) b.funcs.length ((b.funcs.length:Int)-1) (m0 b)={m with fin:=5}):DI b s fuel={m with fin:=5}:=by
 unfold DI;rw[h];rfl
theorem YQ{b:Blocks}{s:ByteArray}{fuel:Int}{m:Mach}(h:mfun b s (Cb fuel) b.funcs.length ((b.funcs.length:Int)-1) (m0 b)=m)(hz:m.fin≠0):DI b s fuel=m:=by
 unfold DI;rw[h];have:(m.fin==0)=false:=by rw[beq_eq_false_iff_ne];exact hz
 simp only[this,cond_false]
theorem VL{b:Blocks}{s:ByteArray}{fuel:Int}{m:Mach}(h:mfun b s (Cb fuel) b.funcs.length ((b.funcs.length:Int)-1) (m0 b)=m)(hz:m.fin=0):DI b s fuel={m with fin:=1}:=by
 unfold DI;rw[h];have:(m.fin==0)=true:=by rw[beq_iff_eq];exact hz
 simp only[this,cond_true]
theorem Rr{R:List (Option (List Int))}{f n:Nat}{X:Aa}(hf:f<R.length)(hR:∀l,R[f]?=some (some l)->l.length=n)(h2:∀g,X (g+16)=some (Ic ((R[g]?).getD none)))(g:Nat):KH X (f+16) n (g+16)=some (Ic (((R.set f (some (List.replicate n 0)))[g]?).getD none)):=
 d5 (h:=X) hf hR (fun g=>rfl) h2 g
theorem bI{b:Blocks}{es above:List F7}{fr:F7}:some (AV.ref 7 (G5 (es.map (K6 b)) above.length (K6 b fr)).length 0 (above.length+1))=some (AV.ref 7 (HU es above.length fr).length 0 (above++[fr]).length):=by
 rw[<-NS,List.length_map,List.length_append,List.length_singleton]
theorem KN(b:Blocks)(s:ByteArray)(fuel:Int)(hbr:b.right=true)(hbw:b.insW)(hil:∀f∈b.funcs,∀x∈f.blocks,x.ins.length<=vd)(hnf:b.funcs.length<=1000)(hfu:fuel<=1000000)(hs:s.size<=9223372036854775807):Pu Tryz.prog 9 [.agg b.cells,.str s,.int .i64 fuel] (.agg (LI (DI b s fuel))):=by
 have hsp:=DW hbr;have hn0:0<b.funcs.length:=List.length_pos_iff.2 hsp.2.2.1;obtain⟨F0,hF0⟩:=Ag (l:=b.funcs) (k:=b.funcs.length-1) Ab;have hone0:=Es (hsp.2.2.2 _ F0 hF0);have hwz:b.words=((b.words.toNat:Nat):Int):=by omega
 have hw0:b.words.toNat<=1048576:=by omega
 have hnr0:=FSq hF0;refine APure.of_body (n:=147) Am Tryz.func9 rfl rfl ?_;refine Gy ?_;refine ax 3 (Dn 2 4) ?_;refine ax 6 (I7 Am 5) ?_;refine an ?_;refine AGo.scope ?_;refine wk 6 ?_;refine dx 19 (B7 Am (n:=b.words.toNat) (m:=b.words.toNat) 1 true (hni:=hwz) (hnj:=hwz) (hby:=(by show 4*b.words.toNat<=_;omega))) ?_;refine wk 3 ?_;refine dx 23 (B7 Am (n:=b.funcs.length) (m:=b.funcs.length) 2 false (hni:=M3) (hnj:=M3) (hby:=(by show 24*b.funcs.length<=_;omega))) ?_;refine wk 2 ?_;refine dx 26 (Dn 6 0) ?_;refine wk 3 ?_;refine AGo.ghost (.dryCell 0 0 5 3 1 true rfl rfl rfl rfl rfl A7) ?_;refine wk 5 ?_;refine aq 31 (BB (r:=.int .i64 (((b.funcs.length-1):Nat):Int)) rfl rfl rfl (by rw[List.length_map];exact He hn0 Ab)) ?_;refine AOps.call 32 rfl rfl rfl (O3 rfl Tryz.func20 Ay rfl rfl (Rk _ b F0 (b.funcs.length-1) b.funcs.length 15 (Fk b (b.funcs.length-1)) (.ref 1 b.words.toNat 0 b.words.toNat) (.str s) (.int .i64 0) (.ref 3 0 0 0) (List.replicate b.funcs.length none) rfl (congrArg (fun es=>some (rf 1 es)) (Qi _).symm) Az Ab hF0 (by rw[hnr0];have:=hone0.1;omega) (by rw[hnr0];have:=hone0.2.1;omega) rfl ⟨by decide,by decide,by omega⟩ (fun l hl=>by rw[List.getElem?_replicate]at hl;split at hl<;>cases hl) (by rw[Qn];(try simp only[AA]);repeat(first|rfl|refine BG UQ ?_)) rfl)) ?_
 refine ax 8 (Fj Am 6 rfl rfl TA rfl (Nat.zero_lt_succ _) rfl) ?_;refine AOps.w rfl rfl (Be Am (es:=[[.int .i64 0,.int .i64 0,.int .i64 0,.nil]]) rfl rfl rfl rfl rfl TA rfl rfl rfl A7 (Jk _ _ _ _ _) ED) ?_;refine wk 6 ?_;refine AGo.ghost (.dry 9 7 4 false rfl rfl TA A7) ?_;refine wk 5 ?_;refine AGo.label ?_;refine wk 2 ?_;refine WP (γ:=yn) kap (fun r=>⟨147,(Ad (Ad (Ad (Ad (Ad (Ad (Ad (Ad (Ad BC 1 (.str s)) 2 (.int .i64 fuel)) 3 (pZ 4)) 6 (pZ 5)) 7 (pZ 0)) 8 (pZ 6)) 9 (.ref 7 r.es.length 0 r.q.above.length)) 10 (.int .i64 0)) 11 (iN r.q.m.steps)),(GO b s r.q.m r.q.R r.q.now r.es)⟩) (fun r=>RInvB b s (Cb fuel) (mfun b s (Cb fuel) b.funcs.length ((b.funcs.length:Int)-1) (m0 b)) r) (fun r=>fuel.toNat-r.q.m.steps) ⟨⟨⟨b.funcs.length-1,0,0⟩,[],(List.replicate b.funcs.length none).set (b.funcs.length-1) (some (List.replicate (Fk b (b.funcs.length-1)) 0)),m0 b⟩,[]⟩ (Sub.mk' Fc (SI (FV ES (by rw[show(m0 b).words=List.replicate b.words.toNat 0 from rfl,<-IW];exact ES) ES ES ES ES ES ES (fun g=>by(try simp only[AA]);repeat(refine BG UQ ?_);exact Rr FI (fun l hl=>by rw[List.getElem?_replicate]at hl;split at hl<;>cases hl) (fun g=>by rw[Qn];repeat(first|rfl|refine BG UQ ?_|refine Hg Ab ?_)) g)) (fun c h8 h15=>by(try simp only[AA]);repeat(first|rfl|refine BG UQ ?_|refine Iq Ab ?_|refine Hg Ab ?_)))) (RInvB.first hbr hF0) (fun r=>J0 _ _ _ _ _ _) ?_
 intro r hRI;have hI:=hRI.inv;obtain⟨F,k,l,h1,h2,h3,h4,h5,h6,h7⟩:=hI.now.ex;have hone:=Es (hsp.2.2.2 _ F h1);have hnr:=FSq h1;have hmx:=hRI.max;have hrln:=hRI.len;have hflt:r.q.now.f<r.q.R.length:=(List.getElem?_eq_some_iff.1 h5).1;have hinsl:=hil F (List.mem_of_getElem? h1) k (List.mem_of_getElem? h2);refine wk 8 ?_;refine asp 35 (fun hb1=>?_) fun hb1=>?_
 .
  refine act ?_
  let mE:Mach:=r.q.m
  have hff:decide ((r.q.m.steps:Int)>=Cb fuel)=true:=by rw[Q7];exact hb1
  have hend:=hRI.inv.noFuel hff;refine wk 6 ?_;exact vG
 refine BK ?_;have hff:decide ((r.q.m.steps:Int)>=Cb fuel)=false:=by rw[Q7];exact hb1
 have hlt:r.q.m.steps<fuel.toNat:=by have h:=hb1;simp at h;omega
 refine wk 4 ?_;refine aq 37 (Bw rfl rfl hlt GM) ?_;refine wk 8 ?_;refine dq 42 (F6 Am (AG h1)) ?_;refine wk 4 ?_;refine dq 47 (AJ Am rfl rfl rfl rfl rfl rfl h3 (Ev h2) rfl) ?_;refine wk 14 ?_;refine asp 55 (fun hb2=>?_) fun hb2=>?_
 .
  refine act ?_;have hat:r.q.now.at'<k.ins.length:=by have h:=hb2;simp at h;exact h
  obtain⟨t,ht⟩:=Ag hat;have htm:=List.mem_of_getElem? ht;have htin:=Ls ((hone.2.2.2 k (List.mem_of_getElem? h2)).2 t htm);refine wk 8 ?_;refine dq 62 (F6 Am (AG ht)) ?_;refine wk 6 ?_;refine aq 65 (Bw rfl rfl hat (by simp only[maxLen];have hbig:k.ins.length<=140737488355328:=hinsl;omega)) ?_;refine wk 12 ?_;refine asp 71 (fun hb3=>?_) fun hb3=>?_
  .
   refine act ?_;have h10:t.op=10:=by simpa using hb3
   have hcb:=G0 hbr h1 k (List.mem_of_getElem? h2) t htm h10;obtain⟨f0,hf0⟩:∃f0:Nat,t.base=(f0:Int):=⟨t.base.toNat,by omega⟩
   have hf0l:f0<b.funcs.length:=by have:=(List.getElem?_eq_some_iff.1 h1).1;omega
   obtain⟨G,hG⟩:=Ag hf0l;have honeG:=Es (hsp.2.2.2 _ G hG);have hnrG:=FSq hG;have hf0R:f0<r.q.R.length:=by rw[hRI.inv.rl];exact hf0l
   have hRl:∀l,r.q.R[f0]?=some (some l)->l.length=Fk b f0:=fun l hl=>by rw[hnrG];exact hRI.rl f0 G l hG hl
   have hR2:=RInvB.call hbr hRI h1 h2 ht hff h10 hf0 hG;have hmu2:=Jd hlt;refine wk 4 ?_;refine ax 74 (QG Am 8 false rfl rfl rfl rfl rfl rfl A7 rfl rfl rfl (by show(List.all [_] _)=true;simp only[List.all_cons,List.all_nil,Bool.and_true];exact Jk _ _ _ _ _) ED rfl rfl) ?_;refine ax 75 (Yx Am (es:=r.es.map (K6 b)) (cs2:=K6 b ⟨r.q.now.f,r.q.now.blk,r.q.now.at'+1⟩) rfl rfl rfl rfl rfl rfl rfl rfl rfl M3 hRI.len rfl rfl (Nat.zero_lt_succ _) (.ref 8 1 0 1 false 4 [K6 b ⟨r.q.now.f,r.q.now.blk,r.q.now.at'+1⟩] (by(try simp only[AA]);exact Au _ _ _) rfl) rfl ED gY aY) ?_;refine wk 8 ?_;refine AOps.call 81 rfl rfl rfl (O3 rfl Tryz.func20 Ay rfl rfl (Rk _ b G f0 b.funcs.length 9 (Fk b f0) (.ref 1 b.words.toNat 0 b.words.toNat) (.str s) (.int .i64 (r.q.m.read:Int)) (.ref 3 r.q.m.out.length 0 r.q.m.out.length) r.q.R rfl rfl hRI.inv.rl.symm hf0l hG (by rw[hnrG];have:=honeG.1;omega) (by rw[hnrG];have:=honeG.2.1;omega) TA ⟨by decide,by decide,by omega⟩ hRl bh hf0)) ?_
   refine AOps.w rfl rfl (Be Am (es:=[K6 b ⟨r.q.now.f,r.q.now.blk,r.q.now.at'+1⟩]) rfl rfl rfl rfl rfl TA rfl rfl rfl A7 (Jk _ _ _ _ _) ED) ?_;refine wk 2 ?_;exact⟨⟨⟨⟨f0,0,0⟩,r.q.above++[⟨r.q.now.f,r.q.now.blk,r.q.now.at'+1⟩],r.q.R.set f0 (some (List.replicate (Fk b f0) 0)),{r.q.m with steps:=r.q.m.steps+1}⟩,HU r.es r.q.above.length ⟨r.q.now.f,r.q.now.blk,r.q.now.at'+1⟩⟩,DropK.mk' ln (FW (FV ES ES ES ES ES ES (by rw[show K6 b ⟨f0,0,0⟩=[.int .i64 t.base,.int .i64 0,.int .i64 0,LM (f0+16) (Fk b f0)] by rw[hf0];rfl];exact ES) (by rw[NS];exact ES) (fun g=>by(try simp only[AA]);repeat(refine BG UQ ?_);exact Rr hf0R hRl (fun g=>by repeat(first|exact Mo _ _ _|refine BG UQ ?_|refine Hg Ab ?_)) g))),hR2,hmu2⟩
  refine BK ?_;have h10:t.op≠10:=by simpa using hb3
  have hposn:0<Fk b r.q.now.f:=by have:=XB htin h10;rw[hnr];exact this
  have hMr2:GO b s r.q.m r.q.R r.q.now r.es (r.q.now.f+16)=some (rt 1 (Ap l)):=by unfold GO;rw[Mo,h5,Option.getD_some,HC (by rw[h6,<-hnr];exact hposn)]
  have hmg:=JY (call:=fun _ m=>m) (s:=s) (fun _ _ h=>h) t (hbw F (List.mem_of_getElem? h1) k (List.mem_of_getElem? h2) t htm) h7 (D5 hRI.inv.good);have hmlen:=hmg.2.1;have hlpos:0<l.length:=by rw[h6,<-hnr];exact hposn
  refine wk 6 ?_;refine AOps.call 86 rfl rfl rfl (O3 rfl Tryz.func21 Ay rfl rfl (jQ _ r.q.now.f b.words.toNat (Fk b r.q.now.f) r.q.now.f (AT b.funcs) (.ref 2 b.funcs.length 0 b.funcs.length) s t l {r.q.m with steps:=r.q.m.steps+1} (by rw[hnr];exact htin) h7 (by rw[hnr,h6]) (D5 hRI.inv.good) hRI.inv.fin hw0 hs (hbw F (List.mem_of_getElem? h1) k (List.mem_of_getElem? h2) t (List.mem_of_getElem? ht)) h10 hposn TA TA TA hMr2)) ?_;refine wk 7 ?_;refine asp 88 (fun hb4=>?_) fun hb4=>?_
  .
   refine act ?_
   let mE:Mach:=(AB (fun _ m=>m) s t l {r.q.m with steps:=r.q.m.steps+1}).2
   have hz:(AB (fun _ m=>m) s t l {r.q.m with steps:=r.q.m.steps+1}).2.fin≠0:=by simpa using hb4
   have hst:(AB (fun _ m=>m) s t l {r.q.m with steps:=r.q.m.steps+1}).2.steps=r.q.m.steps+1:=Fl h10;have hend:=hRI.inv.insEnd h1 h2 ht h5 hff h10 hz;refine wk 2 ?_;exact vG
  refine BK ?_;have hz:(AB (fun _ m=>m) s t l {r.q.m with steps:=r.q.m.steps+1}).2.fin=0:=by simpa using hb4
  have hst:(AB (fun _ m=>m) s t l {r.q.m with steps:=r.q.m.steps+1}).2.steps=r.q.m.steps+1:=Fl h10;have hR2:=RInvB.ins hRI h1 h2 ht (hbw F (List.mem_of_getElem? h1) k (List.mem_of_getElem? h2) t htm) h5 hff h10 hz h6;have hmu2:=YN hlt (Fl (s:=s) (t:=t) (regs:=l) (m:={r.q.m with steps:=r.q.m.steps+1}) h10);refine wk 2 ?_;exact⟨⟨⟨⟨r.q.now.f,r.q.now.blk,r.q.now.at'+1⟩,r.q.above,r.q.R.set r.q.now.f (some (AB (fun _ m=>m) s t l {r.q.m with steps:=r.q.m.steps+1}).1),(AB (fun _ m=>m) s t l {r.q.m with steps:=r.q.m.steps+1}).2⟩,r.es⟩,DropK.mk' ln (FW (FV ES ES (by rw[Qh h5 hmlen];(try simp only[AA]);repeat(first|exact Au _ _ _|refine BG (by first|rfl|exact AC Ab) ?_|rfl)) ES ES ES ES ES (j6 (h:=GO b s r.q.m r.q.R r.q.now r.es) hflt (by rw[hmlen];omega) (by(try simp only[AA]);exact Au _ _ _) (fun g hg=>by simp only[AA];rw[Ax _ _ Ab,Ax _ _ Ab,Ax _ _ Ab,Ax _ _ Ab,Ax _ _ Ab]) (Mo _ _)))),hR2,hmu2⟩
 refine BK ?_;have hat:k.ins.length<=r.q.now.at':=by have h:=hb2;simp at h;exact h
 refine wk 14 ?_;refine asp 93 (fun hb5=>?_) fun hb5=>?_
 .
  refine act ?_;have hf1:k.fin=1:=by simpa using hb5
  have hR2:=RInvB.jump hbr hRI h1 h2 hat h5 hff (by rw[hf1];rfl) (uo hf1 l);have hmu2:=Jd hlt;refine wk 10 ?_;exact⟨⟨⟨⟨r.q.now.f,k.to,0⟩,r.q.above,r.q.R,{r.q.m with steps:=r.q.m.steps+1}⟩,r.es⟩,DropK.mk' ln (FW (FV ES ES ES ES ES ES ES ES (fun g=>bh))),hR2,hmu2⟩
 refine BK ?_;have hn1:¬k.fin=1:=by simpa using hb5
 refine wk 5 ?_;refine asp 101 (fun hb6=>?_) fun hb6=>?_
 .
  refine act ?_;have hf2:k.fin=2:=by simpa using hb6
  have hv:=jP (hone.2.2.2 k (List.mem_of_getElem? h2)).1 (by rw[hf2];rfl);have hposn:0<Fk b r.q.now.f:=by rw[hnr];omega
  have hMr:GO b s r.q.m r.q.R r.q.now r.es (r.q.now.f+16)=some (rt 1 (Ap l)):=by unfold GO;rw[Mo,h5,Option.getD_some,HC (by rw[h6,<-hnr];exact hposn)]
  refine wk 17 ?_;refine dq 113 (An Am (es:=Ap l) rfl (congrArg some (IX hposn)) rfl rfl rfl rfl hMr (by rw[C0,hnr,h6]) rfl hv.1 (by have:=hv.2;omega)) ?_;refine dq 114 (Aw Am rfl rfl rfl (.ptr _ _ _ _ _ _ (Ap l) _ hMr (by rw[C0,hnr,h6]) (Ep (by have:=hv;omega))) rfl) ?_;refine wk 2 ?_;refine AGo.join (γ:=Int) (fun to=>⟨147,(Ad (Ad (Ad (Ad (Ad (Ad (Ad (Ad (Ad (Ad BC 1 (.str s)) 2 (.int .i64 fuel)) 3 (pZ 4)) 6 (pZ 5)) 7 (pZ 0)) 8 (pZ 6)) 9 (.ref 7 r.es.length 0 r.q.above.length)) 10 (.int .i64 0)) 11 (.int .i64 ((r.q.m.steps+1:Nat):Int))) 14 (.int .i64 to)),(GO b s r.q.m r.q.R r.q.now r.es)⟩) (fun to=>k.next l=to) ?_ ?_
  .
   refine asp 115 (fun hb7=>?_) fun hb7=>?_
   .
    refine act ?_;have hnx:=jd hf2 hb7;refine wk 7 ?_;exact⟨k.to,Sub.mk' Fc FH,hnx⟩
   refine BK ?_;have hnx:=je hf2 hb7;refine vE ?_;exact⟨k.els,Sub.mk' Fc FH,hnx⟩
  intro to hnx;refine j7 ?_;have hR2:=RInvB.jump hbr hRI h1 h2 hat h5 hff (by rw[hf2];rfl) hnx;have hmu2:=Jd hlt;refine wk 6 ?_;exact⟨⟨⟨⟨r.q.now.f,to,0⟩,r.q.above,r.q.R,{r.q.m with steps:=r.q.m.steps+1}⟩,r.es⟩,DropK.mk' ln (FW (FV ES ES ES ES ES ES ES ES (fun g=>bh))),hR2,hmu2⟩
 refine BK ?_;have hn2:¬k.fin=2:=by simpa using hb6
 refine wk 5 ?_;refine asp 123 (fun hb8=>?_) fun hb8=>?_
 .
  refine act ?_;have hf3:k.fin=3:=by simpa using hb8
  refine wk 7 ?_;refine asp 127 (fun hb9=>?_) fun hb9=>?_
  .
   refine act ?_
   let mE:Mach:=r.q.m
   have habe:r.q.above=[]:=by have h:=hb9;simp at h;exact h
   have hend:=hRI.inv.done h1 h2 hat hff (by rw[hf3];rfl) habe;refine wk 6 ?_;exact vG
  refine BK ?_;have hab:0<r.q.above.length:=List.length_pos_iff.2 (by have h:=hb9;simp at h;exact h);obtain⟨fr,hfr⟩:=S1 hab;have hfr2:=WI hRI hfr;have hR2:=RInvB.ret hRI h1 h2 hat hff (by rw[hf3];rfl) hfr;have hmu2:=Jd hlt;refine wk 6 ?_;refine aq 131 (BB (r:=.int .i64 ((r.q.above.length-1:Nat):Int)) rfl rfl rfl (He hab Ab)) ?_;refine aq 132 (An Am (es:=r.es.map (K6 b)) (hm:=M3)) ?_;refine aq 133 (Aw Am rfl rfl rfl (.ptr _ _ _ _ _ _ (r.es.map (K6 b)) (K6 b fr) rfl M3 hfr2) rfl) ?_;refine AOps.w rfl rfl (Be Am (es:=[K6 b r.q.now]) rfl rfl rfl rfl rfl TA rfl rfl rfl A7 (Jk _ _ _ _ _) ED) ?_;refine wk 5 ?_;refine aq 137 (BB (r:=.int .i64 ((r.q.above.length-1:Nat):Int)) rfl rfl rfl (He hab Ab)) ?_;refine aq 138 (Kr Am (es:=r.es.map (K6 b)) (m:=r.q.above.length-1) rfl rfl rfl rfl rfl rfl TA M3 rfl Ab) ?_;refine wk 2 ?_;exact⟨⟨⟨fr,r.q.above.dropLast,r.q.R,{r.q.m with steps:=r.q.m.steps+1}⟩,r.es⟩,DropK.mk' ln (FW (FV ES ES ES ES ES ES ES ES (fun g=>bh))),hR2,hmu2⟩
 refine BK ?_;have hn3:¬k.fin=3:=by simpa using hb8
 refine vE ?_;exfalso;have he:=(hone.2.2.2 k (List.mem_of_getElem? h2)).1;have:=S7 he;omega
theorem KS(z:Forged)(s:ByteArray)(hz:Oy z)(hs:s.size<=maxLen):Pu Tryz.prog 3 [.agg z.cells,.str s] (.bool true):=by
 obtain⟨hO,hN,hP,hOw,hNw⟩:=hz;have hn:=hP.n;refine APure.of_body (n:=135) Am Tryz.func3 rfl rfl ?_;refine Gy ?_;refine ax 2 (Dn 5 0) ?_;refine wk 5 ?_;refine ax 9 (CR Tryz.func4 (cu)) ?_;refine wk 9 ?_;refine ax 13 (CR Tryz.func5 (Rd z.old hO)) ?_;refine wk 2 ?_;refine BH 15 (fun hb1=>?_) fun hb1=>?_
 .
  refine wk 22 ?_;exact La
 refine wk 2 ?_;refine ax 18 (CR Tryz.func5 (Rd z.new hN)) ?_;refine wk 3 ?_;refine BH 21 (fun hb2=>?_) fun hb2=>?_
 .
  refine wk 16 ?_;exact La
 refine wk 5 ?_;refine BH 26 (fun hb3=>?_) fun hb3=>?_
 .
  refine wk 11 ?_;exact La
 refine wk 6 ?_;refine asp 31 (fun hb4=>?_) fun hb4=>?_
 .
  refine wk 5 ?_;exact La
 refine BK ?_;have hF1:=Re (b:=z.old) (by simpa using hb1);have hF2:=Re (b:=z.new) (by simpa using hb2);have hwl:z.why.length<=6:=by have h:=hb4;simp only[List.length_map,decide_eq_false_iff_not]at h;omega
 refine wk 7 ?_;refine AF (γ:=Nat) 1 (fun k=>⟨135,(Ad (Ad (Ad BC 1 (.str s)) 2 (pZ 0)) 5 (iN k)),(Al (AU 1) 0 (rf 5 [z.cells]))⟩) (fun k=>k<=z.why.length/\(z.why.take k).all J6=true) (fun k=>z.why.length-k) 0 (Sub.mk' DP FH) ⟨Nat.zero_le _,rfl⟩ (fun _=>CJ) ?_;intro k hF;refine wk 9 ?_;refine asp 36 (fun hb5=>?_) fun hb5=>?_
 .
  refine act ?_;have hkl:=D2 hb5;obtain⟨ps,hps⟩:=Ag hkl;have hpsl:=hP.m ps (List.mem_of_getElem? hps);refine wk 9 ?_;refine aq 42 (F6 Am (AG hps)) ?_;refine wk 4 ?_;refine asp 45 (fun hb6=>?_) fun hb6=>?_
  .
   refine wk 5 ?_;exact La
  refine BK ?_;have hp6:ps.length<=6:=by have h:=hb6;simp only[List.length_map,decide_eq_false_iff_not]at h;omega
  refine wk 6 ?_;refine AF (γ:=Nat) 1 (fun j=>⟨135,(Ad (Ad (Ad (Ad BC 1 (.str s)) 2 (pZ 0)) 5 (iN k)) 6 (iN j)),(Al (AU 1) 0 (rf 5 [z.cells]))⟩) (fun j=>j<=ps.length/\(ps.take j).all Mz=true) (fun j=>ps.length-j) 0 (Sub.mk' DP FH) ⟨Nat.zero_le _,rfl⟩ (fun _=>CJ) ?_;intro j hJ;refine wk 7 ?_;refine aq 50 (F6 Am (AG hps)) ?_;refine wk 4 ?_;refine asp 53 (fun hb7=>?_) fun hb7=>?_
  .
   refine act ?_;have hjl:j<ps.length:=D2 hb7;obtain⟨p,hp⟩:=Ag hjl;have hpl:p.f.Lim:=GC (hP.p ps (List.mem_of_getElem? hps) p (List.mem_of_getElem? hp)).c;refine wk 8 ?_;refine aq 59 (F6 Am (AG hps)) ?_;refine wk 2 ?_;refine aq 62 (F6 Am (AG hp)) ?_;refine wk 2 ?_;refine ax 65 (CR Tryz.func6 (Rf p.f 10 50 A7 (Nat.le_trans (hpl.n) A7) (fun x hx=>Nat.le_trans (hpl.c x hx) A7))) ?_;refine wk 2 ?_;refine BH 67 (fun hb8=>?_) fun hb8=>?_
   .
    refine wk 32 ?_;exact La
   refine wk 3 ?_;refine aq 71 (F6 Am (AG hps)) ?_;refine wk 2 ?_;refine aq 74 (F6 Am (AG hp)) ?_;refine wk 7 ?_;refine BH 81 (fun hb9=>?_) fun hb9=>?_
   .
    refine wk 18 ?_;exact La
   refine wk 3 ?_;refine aq 85 (F6 Am (AG hps)) ?_;refine wk 2 ?_;refine aq 88 (F6 Am (AG hp)) ?_;refine wk 6 ?_;refine asp 93 (fun hb10=>?_) fun hb10=>?_
   .
    refine wk 5 ?_;exact La
   refine BK ?_;have hyo:Mz p=true:=by simp_all[Mz,LB,AS];try omega
   refine wk 3 ?_;refine aq 55 (Bw rfl rfl hjl GM) ?_;refine wk 2 ?_;exact⟨j+1,Drop.mk' DO KQ,⟨hjl,Kf hp hJ.2 hyo⟩,by omega⟩
  refine BK ?_;have hge2:ps.length<=j:=D6 hb7;have hyes:J6 ps=true:=by have h:=hJ.2;rw[List.take_of_length_le hge2]at h;rw[J6,h,decide_eq_true hp6];rfl
  refine wk 3 ?_;refine aq 38 (Bw rfl rfl hkl GM) ?_;refine wk 2 ?_;exact⟨k+1,Drop.mk' DO KQ,⟨hkl,Kf hps hF.2 hyes⟩,by omega⟩
 refine BK ?_;have hge:=D6 hb5;have hall:z.why.all J6=true:=by have h:=hF.2;rwa[List.take_of_length_le hge]at h
 refine wk 6 ?_;refine ax 96 (CR Tryz.func7 (Qk z.old)) ?_;refine wk 2 ?_;refine BH 98 (fun hb11=>?_) fun hb11=>?_
 .
  refine wk 21 ?_;exact La
 refine wk 2 ?_;refine ax 101 (CR Tryz.func7 (Qk z.new)) ?_;refine wk 3 ?_;refine BH 104 (fun hb12=>?_) fun hb12=>?_
 .
  refine wk 15 ?_;exact La
 refine wk 6 ?_;refine ax 111 (CR Tryz.func8 (Wx z.old z.new z.why hO.n (hF1.i hOw) (Rc hP hall))) ?_;refine wk 3 ?_;refine asp 113 (fun hb13=>?_) fun hb13=>?_
 .
  refine wk 5 ?_;exact La
 refine BK ?_;have hr1:z.old.right=true:=by simpa using hb11
 have hr2:z.new.right=true:=by simpa using hb12
 have hck:EA z.old z.new z.why=true:=by simpa using hb13
 have hal:=Pn (VC hOw hP.w hck) s;refine wk 6 ?_;refine dx 117 (CR Tryz.func9 (KN z.old s 300 hr1 hOw (fun f hf x hx=>Nat.le_trans ((hO.f hf).c x hx) A7) (by have:=hF1.n;omega) A7 (by have h:=hs;simp only[maxLen]at h;omega))) ?_;refine wk 3 ?_;refine dx 121 (CR Tryz.func9 (KN z.new s 3000 hr2 hNw (fun f hf x hx=>Nat.le_trans ((hN.f hf).c x hx) A7) (by have:=hF2.n;omega) A7 (by have h:=hs;simp only[maxLen]at h;omega))) ?_;refine dx 7 (I7 Am 1) ?_;refine dx 8 (I7 Am 2) ?_;refine wk 9 ?_;refine BH 125 (fun hb14=>?_) fun hb14=>?_
 .
  refine wk 11 ?_;exact gN
 refine wk 5 ?_;refine BH 130 (fun hb15=>?_) fun hb15=>?_
 .
  refine wk 6 ?_;exact gN
 refine wk 2 ?_;refine ax 133 (CR Tryz.func10 (Tk (DI z.old s 300) (DI z.new s 3000))) ?_;refine wk 3 ?_;exact gN
end Go.Proofs.YtijlphdockhgjaaGreatDoor.Sv
namespace Go.Proofs.YtijlphdockhgjaaGreatDoor
open Go
theorem jf2:(mapsRowed Tryz.prog)=true:=by kernel_rfl
theorem jf9:((Rows.systemForgedUptoRow.inPlace==Tryz.prog.inPlace 3))=true:=by kernel_rfl
theorem jf10:((Rows.systemForgedUptoRow.unfollowed==Tryz.prog.unfollowed 3))=true:=by kernel_rfl
end Go.Proofs.YtijlphdockhgjaaGreatDoor
namespace Go.Proofs.YtijlphdockhgjaaGreatDoor
open Go
theorem jf11:((Rows.systemForgedUptoRow.recurses==Tryz.prog.recurses 3))=true:=by kernel_rfl
theorem jf12:((Rows.systemForgedUptoRow.named==Tryz.prog.varsNamed 3))=true:=by kernel_rfl
theorem jf16:((Rows.systemForgedUptoRow.loops==(Tryz.f3.params.toList++(Rows.OpenSpec.upto Rows.systemForgedSpec).bare.plain.varTypes Tryz.prog).any (Tryz.prog.loopsFrom ·)))=true:=by kernel_rfl
theorem jf22:((Rows.systemForgedUptoRow.plainKeys==Tryz.prog.plainKeys))=true:=by kernel_rfl
end Go.Proofs.YtijlphdockhgjaaGreatDoor
namespace Go.Proofs.YtijlphdockhgjaaGreatDoor
open Go.ChangeShapes Go.WideShapes Go.ChangeAt Go.RowKit Sv
set_option linter.unusedVariables false
def signsTab:List (List UInt8):=[[60,60],[62,62],[61,61],[38,38],[124,124],[40],[41],[123],[125],[91],[93],[59],[44],[61],[43],[45],[42],[47],[37],[38],[124],[94],[60],[33]]
def wordsTab:List (List UInt8):=[[118,97,114],[97,114,114,97,121],[102,117,110,99],[119,111,114,100],[105,102],[101,108,115,101],[119,104,105,108,101],[114,101,116,117,114,110],[112,117,116],[103,101,116]]
theorem gSigns:Tryz.prog.globalNamed "seedcorn/token.signs" =some 0:=by kernel_rfl
theorem gWords:Tryz.prog.globalNamed "seedcorn/token.words" =some 1:=by kernel_rfl
theorem glob_ok{W:World}(h:laidMetH Tryz.prog Rows.systemForgedUptoRow.laid W):GlobOk (BR W):=by
 have h':laidMet Tryz.prog [("seedcorn/token.words",strData wordsTab),("seedcorn/token.signs",strData signsTab)] W:=by
  rw[MakeChecks.laidMetH_plain _ _ _ (by kernel_rfl)]at h;exact h
 intro g l e
 match g,e with
 |0,e=>
  obtain rfl:signsTab.map strV=l:=Option.some.inj e;exact rel_strs (t:=312) (e:=9) (n:=24) gSigns (by kernel_rfl) (by kernel_rfl) (by kernel_rfl) (by kernel_rfl) (by kernel_rfl) h'.tail (by decide)
 |1,e=>
  obtain rfl:wordsTab.map strV=l:=Option.some.inj e;exact rel_strs (t:=392) (e:=9) (n:=10) gWords (by kernel_rfl) (by kernel_rfl) (by kernel_rfl) (by kernel_rfl) (by kernel_rfl) h' (by decide)
def tabLaid(cs:Array Value):Obj->Obj
  | .cells _ t frozen=>.cells cs t frozen
  |o=>o
noncomputable def laidWorld(os:Os):World:=
  {World.holding Tryz.prog os ⟨#[],#[],[]⟩with heap:=((World.holding Tryz.prog os ⟨#[],#[],[]⟩).heap.modify 0 (tabLaid (signsTab.map strV).toArray)).modify 1 (tabLaid (wordsTab.map strV).toArray)}
def args0:Array Value:= #[.agg #[.int .i64 0,.slice none 0 0,.int .i64 0,.slice none 0 0,.slice none 0 0],.string ⟨#[]⟩]
theorem laid_met(os:Os):laidMet Tryz.prog Rows.systemForgedUptoRow.laid ((laidWorld os).forCall (fun _ _=>0) ⟨#[],args0,[]⟩).memory:=
 laidMet_of_run' 8 (by kernel_rfl) (by kernel_rfl)
theorem reads(os:Os){H:Type}(enc:TypeId×Value->H):∃places,DataW.whole enc Tryz.prog ((laidWorld os).forCall (fun _ _=>0) ⟨#[],args0,[]⟩).memory Tryz.f3.params.toList (Rows.OpenSpec.upto Rows.systemForgedSpec).vars false args0.toList 8=some ([.agg [.agg [.lit (.int .i64 0),.nil],.agg [.lit (.int .i64 0),.nil],.nil],.lit (.string [])],[],places):=
 ⟨[],by kernel_rfl⟩
set_option maxRecDepth 100000 in
theorem lifted(os:Os)(started:os.Started)(H:Type)(enc:TypeId×Value->H)(F:Stop.Interp):
 ReturnsInHanded {} Tryz.checked os 3 .any ((Rows.OpenSpec.upto Rows.systemForgedSpec).preRow enc Tryz.prog Tryz.f3 Rows.systemForgedUptoRow.domain false Rows.systemForgedUptoRow.laid) (((Rows.OpenSpec.upto Rows.systemForgedSpec).at F).post enc Tryz.prog Tryz.f3 false true false false):=by
 obtain⟨places,hx⟩:=reads os enc;refine returnsInHanded_of_row (C:=Tryz.checked) (s:=Rows.OpenSpec.upto Rows.systemForgedSpec) own' started (by kernel_rfl) Tryz.func3
  (witness_row_at (enc:=enc) (C:=Tryz.checked) false (laidWorld os) args0 rfl (by kernel_rfl) (by kernel_rfl) (by kernel_rfl)
   (OpenSpec.preRow_of_cond 8 hx (by kernel_rfl) (fun k hk=>by cases hk;kernel_rfl) (by kernel_rfl) (laid_met os))) ?_
 intro W base args ds gs before hval0 hW _ hk0 hwt0 hL _ _;have hk:=hk0 Rows.uptoSmall rfl;have hval:∀(j:Nat) t v,Tryz.f3.params[j]?=some t->args[j]?=some v->Value.okWide Tryz.prog W .any base t v:=hval0
 have hW':=hW;obtain⟨p,q,hA0,hV,rfl,hfz,hnd⟩:=hW;have hA:DataW.TrodAll enc Tryz.prog W 0 (fun _=>true) true Tryz.f3.params.toList args.toList ds p:=hA0;have hwt:(DataW.weightsEach Tryz.prog (Tryz.f3.params.toList++(Rows.OpenSpec.upto Rows.systemForgedSpec).bare.plain.varTypes Tryz.prog) (ds++gs)).all (· <=reachBytes)=true:=hwt0;rw[Tryz.params3]at hA hval hwt;obtain⟨v0,vs0,d0,ds0,p0,q0,hargs,rfl,rfl,h0,r0⟩:=trodAll_cons hA;obtain⟨v1,vs1,d1,ds1,p1,q1,rfl,rfl,rfl,h1,r1⟩:=trodAll_cons r0;obtain⟨rfl,rfl,rfl⟩:=trodAll_nil r1;obtain rfl:args= #[v0,v1]:=by cases args;simp_all
 obtain⟨rfl,rfl⟩:=trodVars_none hV;obtain⟨x0,e0,g0⟩:=arg_oneR h0 (Cw hwt (i:=0) rfl rfl) decForgedR;obtain⟨x1,e1,g1⟩:=dZ h1 (Cw hwt (i:=1) rfl rfl) decStr;have u0:=upto_get hk (i:=0) rfl;exact VQ laidOut' rfl (by kernel_rfl) rfl bool' rfl rfl rfl hW' (.cons (e0.val (Sy Am rfl rfl (hval 0 27 v0 rfl rfl))) (.cons (e1.val1 (okWide_cellS Am rfl rfl (hval 1 9 v1 rfl rfl))) .nil)) (KS x0 x1 (forged_row g0 u0) g1.1) (glob_ok hL)
theorem andB{a b:Bool}(h1:a=true)(h2:b=true):(a&&b)=true:=by rw[h1,h2];rfl
theorem closed':joinedFacts Tryz.prog 3 Tryz.f3 (Rows.OpenSpec.upto Rows.systemForgedSpec).bare Rows.systemForgedUptoRow=true:=
 (andB (andB (andB (andB (andB (andB (andB (andB (andB (andB (andB (andB (andB (andB (andB (andB (andB (andB (andB (andB (andB (andB (andB (andB (andB (andB (andB (andB (andB (andB (andB (by kernel_rfl) laidOut') jf2) (by kernel_rfl)) (by kernel_rfl)) (by kernel_rfl)) (by kernel_rfl)) (by kernel_rfl)) (by kernel_rfl)) jf9) jf10) jf11) jf12) (by kernel_rfl)) (by kernel_rfl)) (by kernel_rfl)) jf16) (by kernel_rfl)) (by kernel_rfl)) (by kernel_rfl)) (by kernel_rfl)) (by kernel_rfl)) jf22) (by kernel_rfl)) (by kernel_rfl)) (by kernel_rfl)) (by kernel_rfl)) (by kernel_rfl)) (by kernel_rfl)) (by kernel_rfl)) (by kernel_rfl)) (by kernel_rfl))
theorem said:Rows.SystemForgedUptoSaid:=
 OpenClaim.holds_of_cond 3 Tryz.f3 rfl rfl rfl rfl rfl rfl rfl ⟨rfl,rfl,rfl,rfl,rfl⟩ rfl rfl rfl rfl rfl (by kernel_rfl) Tryz.func3 closed'
  (of_decide_eq_true (by kernel_rfl)) (by unfold Func.isWrapper;first|(rw[if_pos (by decide+kernel)];kernel_rfl)|(rw[if_neg (by decide+kernel)];exact⟨rfl,rfl⟩))
  (fun os started H enc _ F=>by rw[OpenClaim.pre_eq_preRow];exact lifted os started H enc F)
theorem plain(f:FuncId)(fn:Func)(hf:Tryz.pinned.checked.prog.funcNamed "seedcorn/seedcorntop.SystemForged" =some f)(hfn:Tryz.pinned.checked.prog.funcs[f]?=some fn):
 true=Tryz.pinned.checked.prog.looks []/\∀(j:Nat) t,fn.params[j]?=some t->Tryz.pinned.checked.prog.wantsStandIn t=false:=by
 obtain rfl:f=3:=Option.some.inj ((show Tryz.prog.funcNamed "seedcorn/seedcorntop.SystemForged" =some 3 by kernel_rfl).symm.trans hf)|>.symm;obtain rfl:fn=Tryz.f3:=(Option.some.inj (Tryz.func3.symm.trans hfn)).symm;refine⟨by kernel_rfl,fun j t ht=>?_⟩;rw[Tryz.params3]at ht;have h:t=27\/t=9:=by simpa using Array.mem_of_getElem? ht
 rcases h with rfl|rfl
 . exact(show Tryz.prog.wantsStandIn 27=false by kernel_rfl)
 . exact(show Tryz.prog.wantsStandIn 9=false by kernel_rfl)
theorem systemForged_card:Rows.SystemForgedUptoCardSaid:=
 Claim7.holds_tied_plain_at .later [] _ _ _ _ said (fun _ h=>by cases h) (by kernel_rfl) (fun _ h=>by cases h) systemForgedUpto_row_tie rfl ⟨rfl,rfl⟩ (by kernel_rfl) rfl plain (by kernel_rfl)
end Go.Proofs.YtijlphdockhgjaaGreatDoor
