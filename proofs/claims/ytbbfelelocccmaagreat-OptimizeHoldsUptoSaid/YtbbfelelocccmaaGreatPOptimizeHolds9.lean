/-
  The law OptimizeHolds of the given program answers true for every input of the bulk that is named, and leaves its arguments as they were. Own work.
-/
import Derived.Test.YtbbfelelocccmaaGreatPOptimizeHolds8
import Derived.Test.YtbbfelelocccmaaGreatPOptimizeHolds2
import Derived.Test.YtbbfelelocccmaaGreatPOptimizeHolds3
import Derived.Test.YtbbfelelocccmaaGreatPOptimizeHolds4
import Derived.Test.YtbbfelelocccmaaGreatPOptimizeHolds6
import Derived.Test.YtbbfelelocccmaaGreatPOptimizeHolds5
import Derived.Deep.CondSized
import Derived.JoinedCond
set_option linter.unusedVariables false
set_option linter.unusedSimpArgs false
set_option maxRecDepth 100000
set_option maxHeartbeats 2000000
namespace Go.Proofs.YtbbfelelocccmaaGreat.Sv
open Go
theorem fj(old new:BFunc)(hno:old.blocks.length<=10000)(hnn:new.blocks.length<=10000)(hio:∀x∈old.blocks,x.ins.length<=10000/\GL x.ins)(hin:∀x∈new.blocks,x.ins.length<=10000/\GL x.ins):Pu Tryz.prog 130 [.agg old.cells,.agg new.cells] (.bool (vshaped old new)):=by
 refine qK5 (n:=65) Ah Tryz.func130 rfl rfl ?_;refine FL ?_;refine ax 2 (CC 2 0) ?_;refine ax 3 (CC 2 1) ?_;refine wk 11 ?_;refine BM 13 (fun hb1=>?_) fun hb1=>?_
 .
  refine wk 24 ?_;exact WR
 refine wk 9 ?_;refine BM 22 (fun hb2=>?_) fun hb2=>?_
 .
  refine wk 15 ?_;exact WR
 refine wk 1 ?_;refine ax 24 (Cn Tryz.func132 (TU old Ab (fun x hx=>by have:=(hio x hx).1;omega))) ?_;refine wk 3 ?_;refine BM 27 (fun hb3=>?_) fun hb3=>?_
 .
  refine wk 10 ?_;exact WR
 refine wk 1 ?_;refine ax 29 (Cn Tryz.func132 (TU new Ab (fun x hx=>by have:=(hin x hx).1;omega))) ?_;refine wk 3 ?_;refine asp 31 (fun hb4=>?_) fun hb4=>?_
 .
  refine wk 5 ?_;exact WR
 refine Bg ?_;have hlen:=dj BR;refine wk 10 ?_;refine Ap (γ:=Nat) 2 (fun k=>⟨65,(Aa (Aa (Aa (Aa (Aa AU 2 (pZ 0)) 3 (pZ 1)) 33 (BK old.blocks)) 34 (iN old.blocks.length)) 35 (iN k)),(Af (Af (A0 2) 0 (rf 2 [old.cells])) 1 (rf 2 [new.cells]))⟩) (fun k=>k<=old.blocks.length/\((old.blocks.zip new.blocks).take k).all (fun p=>EW p.1 p.2)=true) (fun k=>old.blocks.length-k) 0 (qJ1 Cq B5) ⟨qZ1 _,rfl⟩ (fun _=>B9) ?_;intro k ⟨hk,hall⟩;refine wk 5 ?_;refine asp 36 (fun hb5=>?_) fun hb5=>?_
 .
  refine Ba ?_;have hkl:k<old.blocks.length:=by simpa using hb5
  obtain⟨x,hx⟩:=Ad hkl;obtain⟨y,hy⟩:=Ad (l:=new.blocks) (k:=k) Ab;refine wk 6 ?_;refine aq 38 (En Ah (Au hx)) ?_;refine wk 1 ?_;refine ax 6 (DA Ah 2) ?_;refine wk 8 ?_;refine aq 43 (En Ah (Au hy)) ?_;refine wk 1 ?_;refine ax 7 (DA Ah 3) ?_;refine wk 10 ?_;refine BM 50 (fun hb6=>?_) fun hb6=>?_
  .
   refine wk 19 ?_;exact d6
  refine wk 7 ?_;refine BM 57 (fun hb7=>?_) fun hb7=>?_
  .
   refine wk 12 ?_;exact d6
  refine wk 7 ?_;refine asp 63 (fun hb8=>?_) fun hb8=>?_
  .
   refine wk 5 ?_;exact d6
  refine wk 3 ?_;refine aq 64 (AS rfl rfl hkl (show old.blocks.length<=maxLen by simp only[maxLen];omega)) ?_;exact wV
 exact tn
theorem eI(old new:BFunc)(hno:old.blocks.length<=10000)(hnn:new.blocks.length<=10000)(hio:∀x∈old.blocks,x.ins.length<=10000/\GL x.ins)(hin:∀x∈new.blocks,x.ins.length<=10000/\GL x.ins)(c:Cert):Pu Tryz.prog 129 [.agg old.cells,.agg new.cells,.agg c.cells] (.bool (Dj old new c)):=by
 refine qK5 (n:=66) Ah Tryz.func129 rfl rfl ?_;refine FL ?_;refine ax 3 (CC 2 0) ?_;refine ax 4 (CC 2 1) ?_;refine ax 5 (CC 1 2) ?_;refine wk 7 ?_;refine ax 13 (Cn Tryz.func130 (fj old new hno hnn hio hin)) ?_;refine wk 2 ?_;refine BM 15 (fun hb1=>?_) fun hb1=>?_
 .
  refine wk 14 ?_;exact sJ
 refine wk 9 ?_;refine asp 23 (fun hb2=>?_) fun hb2=>?_
 .
  refine wk 5 ?_;exact sJ
 refine Bg ?_;have hsh:vshaped old new=true:=FX BR;have hcl:=YO (old:=old) (c:=c) BR;have hV:=HQ hsh;have hSo:=Fe hV.so;have hSn:=Fe hV.sn;have hr0:=hSo.r0;have hr1:=hSo.r1;have hR:((old.regs.toNat:Nat):Int)=old.regs:=q41 hr0;refine wk 10 ?_;refine Ap (γ:=Nat) 3 (fun j=>⟨66,(Aa (Aa (Aa (Aa (Aa (Aa AU 3 (pZ 0)) 4 (pZ 1)) 5 (pZ 2)) 25 (N5 c.same)) 26 (iN c.same.length)) 27 (iN j)),(Af (Af (Af (A0 3) 0 (rf 2 [old.cells])) 1 (rf 2 [new.cells])) 2 (rf 1 [c.cells]))⟩) (fun j=>j<=c.same.length/\(c.same.take j).all (fun r=>decide ((r.length:Int)=old.regs))=true) (fun j=>c.same.length-j) 0 (qJ1 Cq B5) ⟨qZ1 _,rfl⟩ (fun _=>Ac (B9) rfl) ?_;intro j ⟨hj,hall⟩;refine wk 5 ?_;refine asp 28 (fun hb3=>?_) fun hb3=>?_
 .
  refine Ba ?_;have hjl:j<c.same.length:=by have h:=hb3;simp only[q76,q56]at h;omega
  obtain⟨r,hr⟩:=Ad hjl;refine wk 5 ?_;refine aq 29 (En Ah (Au hr)) ?_;refine wk 11 ?_;refine asp 35 (fun hb4=>?_) fun hb4=>?_
  .
   refine Ba ?_;have hne:¬(r.length:Int)=old.regs:=by have h:=JV hb4;rw[q76]at h;exact h
   refine wk 4 ?_;refine CE ⟨[_],⟨rfl,trivial⟩,?_,rfl⟩;refine bc ?_;exact(Zx hr hne).symm
  refine Bg ?_;have heq:(r.length:Int)=old.regs:=by have h:=HE hb4;rw[q76]at h;exact h
  refine wk 2 ?_;refine aq 36 (AS rfl rfl hjl (show c.same.length<=maxLen by simp only[maxLen];omega)) ?_;exact tL
 refine Bg ?_;have hjge:c.same.length<=j:=by have h:=hb3;simp only[q76,q16]at h;omega
 have hall2:=CJ hall hjge;have hrl:∀r∈c.same,r.length=old.regs.toNat:=fun r hr=>by have:=q67.1 hall2 r hr;simp only[q56]at this;omega
 refine wk 4 ?_;refine ax 38 (Cn Tryz.func80 (PW old Ab)) ?_;refine wk 11 ?_;refine Ap (γ:=Nat) 3 (fun k=>⟨66,(Aa (Aa (Aa (Aa (Aa (Aa AU 3 (pZ 0)) 4 (pZ 1)) 5 (pZ 2)) 9 (Ax old.nexts)) 41 (iN old.blocks.length)) 42 (iN k)),(Af (Af (Af (A0 3) 0 (rf 2 [old.cells])) 1 (rf 2 [new.cells])) 2 (rf 1 [c.cells]))⟩) (fun k=>k<=old.blocks.length/\((old.blocks.zip new.blocks).zipIdx.take k).all (fun p=>HR old.regs.toNat p.1.1 p.1.2 c (p.2:Int) p.1.1.nexts)=true) (fun k=>old.blocks.length-k) 0 (qJ1 Cq B5) ⟨qZ1 _,rfl⟩ (fun _=>Ac (B9) rfl) ?_;intro k ⟨hk,hallb⟩;refine wk 5 ?_;refine asp 43 (fun hb5=>?_) fun hb5=>?_
 .
  refine Ba ?_;have hkl:k<old.blocks.length:=by simpa using hb5
  obtain⟨x,hx⟩:=Ad hkl;have hxm:=q33 hx;obtain⟨y,hy⟩:=Ad (l:=new.blocks) (k:=k) (by have:=hV.len;omega);have hym:=q33 hy;have hsb:=hV.b k x y hx hy;have hnx:∀q∈x.nexts,0<=q/\q<c.same.length:=fun q hq=>by rw[hcl];exact hSo.next x hxm q hq
  have hvv:x.fin=2->(0<=x.v/\x.v<(old.regs.toNat:Int))/\(0<=y.v/\y.v<(old.regs.toNat:Int)):=fun hf=>by rw[hR];refine⟨hSo.v x hxm hf,?_⟩;rw[hV.regs];exact hSn.v y hym (by rw[<-hsb.1];exact hf)
  have hto:∀t∈x.ins,Kb t old.regs.toNat:=fun t ht=>hSo.tacs x hxm t ht ((hio x hxm).2 t ht)
  have htn:∀t∈y.ins,Kb t old.regs.toNat:=fun t ht=>by rw[hV.regs];exact hSn.tacs y hym t ht ((hin y hym).2 t ht)
  have hnl:x.nexts.length<=100000:=Pq x;refine wk 13 ?_;refine dq 48 (En Ah (Au hx)) ?_;refine wk 4 ?_;refine dq 53 (En Ah (Au hy)) ?_;refine wk 7 ?_;refine dq 61 (En Ah (Au (C8 hx))) ?_;refine wk 1 ?_;refine dx 63 (Cn Tryz.func131 ((by have h:=jY x y old.regs.toNat c (k:Int) x.nexts Ab hrl Ab hnx hvv hto htn (hio x (q33 hx)).1 (hin y (q33 hy)).1 hnl;rw[hR]at h;exact h))) ?_;refine dq 64 (Iu rfl rfl) ?_;refine wk 1 ?_;refine asp 64 (fun hb6=>?_) fun hb6=>?_
  .
   refine Ba ?_;have hbad:=E5 hb6;refine wk 4 ?_;refine CE ⟨[_],⟨rfl,trivial⟩,?_,rfl⟩;refine bc ?_;exact(Zw hx hy hbad).symm
  refine Bg ?_;have hgood:=FX hb6;refine wk 2 ?_;refine aq 65 (AS rfl rfl hkl (show old.blocks.length<=maxLen by simp only[maxLen];omega)) ?_;exact tP
 refine Bg ?_;have hge:old.blocks.length<=k:=by simpa using hb5
 refine wk 5 ?_;refine CE ⟨[_],⟨rfl,trivial⟩,?_,rfl⟩;refine bc ?_;exact(Zv hsh hcl hall2 (CJ hallb (by rw[List.length_zipIdx,List.length_zip];omega))).symm
theorem np(l r:List Tac)(hl:l.length<=1000000000):APure Tryz.prog 152 [CU l,CU r] (fun q=>q=.bool (decide (l=r))):=by
 refine qK5 (n:=26) Ah Tryz.func152 rfl rfl ?_;refine wk 13 ?_;refine asp 10 (fun hb1=>?_) fun hb1=>?_
 .
  refine wk 5 ?_;refine CE ⟨[_],⟨rfl,trivial⟩,?_,rfl⟩;refine bc ?_;exact(q89 (by rintro rfl;simp_all)).symm
 refine Bg ?_;have hlr:l.length=r.length:=by have h:=hb1;simp at h;omega
 refine wk 9 ?_;refine qJ7 (γ:=Nat) (fun k=>⟨26,(Aa (Aa (Aa (Aa (Aa AU 0 (CU l)) 1 (CU r)) 11 (CU l)) 12 (iN l.length)) 13 (iN k)),hNone⟩) (fun k=>l.take k=r.take k) (fun k=>l.length-k) 0 (qJ1 Cq B5) rfl ?_;intro k ht;refine wk 5 ?_;refine asp 14 (fun hb2=>?_) fun hb2=>?_
 .
  refine Ba ?_;have hkl:k<l.length:=by simpa using hb2
  obtain⟨x,hx⟩:=Ad hkl;obtain⟨y,hy⟩:=Ad (l:=r) (k:=k) Ab;refine wk 12 ?_;refine dq 18 F6 ?_;refine wk 3 ?_;refine dq 22 F6 ?_;refine wk 1 ?_;refine dq 24 (E0 Ah true rfl rfl rfl AF rfl rfl rfl rfl (Tac.eqCells x y)) ?_;refine wk 1 ?_;refine asp 24 (fun hb3=>?_) fun hb3=>?_
  .
   refine Ba ?_;have hxy:x≠y:=by simpa using hb3
   refine wk 4 ?_;refine CE ⟨[_],⟨rfl,trivial⟩,?_,rfl⟩;refine bc ?_;exact(q89 (by rintro rfl;rw[hx]at hy;cases hy;exact hxy rfl)).symm
  refine Bg ?_;have hxy:x=y:=by simpa using hb3
  refine wk 2 ?_;refine aq 25 (AS rfl rfl hkl Bq) ?_;refine wk 2 ?_;exact⟨k+1,qJ1 B4 B5,(by rw[AT hx,AT hy,ht,hxy]),by omega⟩
 refine Bg ?_;have hge:l.length<=k:=by simpa using hb2
 refine wk 5 ?_;refine CE ⟨[_],⟨rfl,trivial⟩,?_,rfl⟩;refine bc ?_;exact(q96 (HT ht hge (hlr▸hge))).symm
theorem aY(f:BFunc)(p:List Int)(hp:oJ f.blocks.length p)(hpl:p.length<=2000000):Pu Tryz.prog 145 [.agg f.cells,AI p] (.bool (G8 f p)):=by
 have hpos:0<p.length:=q43.2 hp.1;refine qK5 (n:=38) Ah Tryz.func145 rfl rfl ?_;refine FL ?_;refine ax 2 (CC 2 0) ?_;refine wk 8 ?_;refine aq 11 (A9 (r:=.int .i64 ((p.length-1:Nat):Int)) rfl rfl rfl (by rw[q76];exact Jf hpos Ab)) ?_;refine aq 12 (cU (m:=p.length-1) (es:=BV p) Ah rfl rfl rfl rfl rfl rfl (by rw[BF];omega) (by intro cs h;simp[BV]at h;obtain⟨n,_,rfl⟩:=h;rfl)) ?_;refine wk 4 ?_;refine Ap (γ:=Nat) 1 (fun k=>⟨38,(Aa (Aa (Aa (Aa (Aa AU 1 (AI p)) 2 (pZ 0)) 12 (.lst false ((BV p).take (p.length-1)))) 13 (.int .i64 ((p.length-1:Nat):Int))) 14 (iN k)),(Af (A0 1) 0 (rf 2 [f.cells]))⟩) (fun k=>((List.range (p.length-1)).take k).all (Mg f p)=true) (fun k=>p.length-1-k) 0 (qJ1 (by repeat(first|exact qJ2 _|refine qJ3 ?_ (by first|rfl|exact congrArg (fun(n:Nat)=>some (AV.int .i64 (n:Int))) (by simp[BF])))) B5) rfl (fun _=>B9) ?_
 intro k hall;refine wk 5 ?_;refine asp 15 (fun hb1=>?_) fun hb1=>?_
 .
  refine Ba ?_;have hkl:k<p.length-1:=by have h:=hb1;simp[BF]at h;omega
  obtain⟨y,hy⟩:=Ad (l:=p) (k:=k) Ab;obtain⟨z,hz⟩:=Ad (l:=p) (k:=k+1) Ab;have hyr:=hp.2 y (q33 hy);have hat:Mg f p k=((f.blockAt y).fin==1&&(f.blockAt y).to==z):=by rw[Mg,Nr hy,Nr hz]
  refine wk 6 ?_;refine aq 17 (An Ah rfl rfl rfl rfl rfl rfl (q46 _) (cs:=[.int .i64 y]) (by rw[q55,q14 hkl,BV,q54,hy];rfl) rfl) ?_;refine wk 9 ?_;refine aq 22 (An Ah rfl rfl rfl rfl rfl rfl hyr.1 (C4 (Bp hyr)) rfl) ?_;refine wk 1 ?_;refine ax 7 (DA Ah 1) ?_;refine wk 8 ?_;refine qK9 27 rfl (fun hb2=>?_) (fun hb2=>?_)
  .
   refine wk 15 ?_;exact rS
  refine wk 4 ?_;refine dq 32 (AS rfl rfl hkl (show p.length-1<=maxLen by simp only[maxLen];omega)) ?_;refine dq 33 (An Ah rfl rfl rfl rfl rfl rfl (q46 _) (cs:=[.int .i64 z]) yb rfl) ?_;refine wk 4 ?_;refine asp 36 (fun hb3=>?_) fun hb3=>?_
  .
   refine wk 5 ?_;exact rS
  refine wk 3 ?_;refine aq 37 (AS rfl rfl hkl (show p.length-1<=maxLen by simp only[maxLen];omega)) ?_;refine wk 2 ?_;exact⟨k+1,qV1 D5 FM,(Cv (K6 hkl) hall (by rw[hat];simp_all)),by omega⟩
 refine Bg ?_;have hge:p.length-1<=k:=by have h:=hb1;simp[BF]at h;omega
 refine wk 5 ?_;refine CE ⟨[_],⟨rfl,trivial⟩,?_,rfl⟩;refine bc ?_;exact(CJ hall (by simpa using hge)).symm
theorem ql(f:BFunc)(b:Block)(p:List Int)(hp:oJ f.blocks.length p)(hpl:p.length<=2000000)(hbl:b.ins.length<=1000000000):Pu Tryz.prog 146 [.agg f.cells,.agg b.cells,AI p] (.bool (GE f b.ins p)):=by
 refine qK5 (n:=47) Ah Tryz.func146 rfl rfl ?_;refine FL ?_;refine ax 3 (CC 2 0) ?_;refine ax 4 (CC 5 1) ?_;refine wk 16 ?_;refine Ap (γ:=MG) 2 (fun q=>⟨47,(Aa (Aa (Aa (Aa (Aa AU 3 (pZ 0)) 7 (CU q.rest)) 13 (AI p)) 14 (iN p.length)) 15 (iN q.k)),(Af (A0 2) 0 (rf 2 [f.cells]))⟩) (fun q=>GE f q.rest (p.drop q.k)=GE f b.ins p/\q.rest.length<=1000000000) (fun q=>p.length-q.k) ⟨0,b.ins⟩ (qJ1 Cq B5) ⟨rfl,hbl⟩ (fun _=>B9) ?_;intro q hF;refine wk 5 ?_;refine asp 16 (fun hb1=>?_) fun hb1=>?_
 .
  refine Ba ?_;have hkl:q.k<p.length:=by have h:=hb1;simp at h;omega
  obtain⟨y,hy⟩:=Ad hkl;have hyr:=hp.2 y (q33 hy);have hst:=aJ (f:=f) (rest:=q.rest) hy;have heq:=hF.1;have hrl:=hF.2;refine wk 5 ?_;refine aq 17 (En Ah (Au hy)) ?_;refine wk 8 ?_;refine aq 22 (An Ah rfl rfl rfl rfl rfl rfl hyr.1 (C4 (Bp hyr)) rfl) ?_;refine wk 13 ?_;refine BM 30 (fun hb2=>?_) fun hb2=>?_
  .
   refine wk 14 ?_;exact tt
  have hlen:(f.blockAt y).ins.length<=q.rest.length:=by have h:=hb2;simp at h;omega
  refine wk 3 ?_;refine aq 34 (lz (l:=q.rest) (m:=(f.blockAt y).ins.length) Ah rfl rfl rfl rfl ⟨rfl,rfl⟩ rfl Qi (by have h:=hlen;omega)) ?_;refine wk 1 ?_;refine ax 36 (Cn Tryz.func152 (np (q.rest.take (f.blockAt y).ins.length) (f.blockAt y).ins Qj)) ?_;refine wk 3 ?_;refine asp 38 (fun hb3=>?_) fun hb3=>?_
  .
   refine wk 5 ?_;exact tt
  refine Bg ?_;have hsame:q.rest.take (f.blockAt y).ins.length=(f.blockAt y).ins:=by simp_all
  refine wk 5 ?_;refine aq 42 (pW (l:=q.rest) (m:=(f.blockAt y).ins.length) Ah rfl rfl rfl rfl ⟨rfl,rfl⟩ rfl Qi (by have h:=hlen;omega)) ?_;refine wk 3 ?_;refine aq 43 (AS rfl rfl hkl Bq) ?_;refine wk 2 ?_;exact⟨⟨q.k+1,q.rest.drop (f.blockAt y).ins.length⟩,qV1 D5 FM,⟨by rw[<-heq,hst];simp[hlen,hsame],by show(q.rest.drop _).length<=_;rw[List.length_drop];omega⟩,(by show p.length-(q.k+1)<p.length-q.k;omega)⟩
 refine Bg ?_;have hge:p.length<=q.k:=by have h:=hb1;simp at h;omega
 have heq:=hF.1;refine wk 8 ?_;refine CE ⟨[_],⟨rfl,trivial⟩,?_,rfl⟩;refine bc ?_;rw[<-heq,List.drop_eq_nil_of_le hge,GE]
 cases q.rest<;>simp[A8]<;>omega
theorem Jo(paths:List (List Int))(k i:Int)(hpn:∀p∈paths,p≠[]):Ca Tryz.prog 153 [.int .i64 k,.int .i64 i,.ptr 2 1 0 0] (Af hNew 2 (rf 1 [[Ax paths]])) (.bool (Ew paths k i)) (Af hNone 2 (rf 1 [[Ax paths]])):=by
 refine qK4 (n:=24) Ah Tryz.func153 rfl rfl ?_;refine wk 9 ?_;refine BM 8 (fun hb1=>?_) fun hb1=>?_
 .
  refine wk 6 ?_;refine BM 14 (fun hb2=>?_) fun hb2=>?_
  .
   have hkr:0<=k/\k<paths.length:=by simp_all[Ax]<;>omega
   have hpk:=I9 hkr;have hp0:=Lp (hpn _ (q33 hpk));refine wk 2 ?_;refine aq 17 (An Ah rfl rfl rfl rfl rfl rfl hkr.1 (C4 hpk) rfl) ?_;refine wk 1 ?_;refine aq 19 (An Ah rfl rfl rfl rfl rfl rfl Al (cs:=[.int .i64 (E6 (DM paths k))]) xX rfl) ?_;refine wk 7 ?_;exact iV
  refine wk 12 ?_;exact iV
 refine wk 18 ?_;exact iV
theorem mH(last b:Block)(paths:List (List Int))(hpn:∀p∈paths,p≠[]):Pu Tryz.prog 147 [.agg last.cells,.agg b.cells,Ax paths] (.bool (Hl last b paths)):=by
 refine qK5 (n:=60) Ah Tryz.func147 rfl rfl ?_;refine FL ?_;refine ax 3 (CC 5 0) ?_;refine ax 4 (CC 5 1) ?_;refine ax 5 (CC 1 2) ?_;refine wk 11 ?_;refine BM 15 (fun hb1=>?_) fun hb1=>?_
 .
  refine wk 13 ?_;exact bM
 refine wk 7 ?_;refine asp 21 (fun hb2=>?_) fun hb2=>?_
 .
  refine wk 6 ?_;exact bM
 refine wk 4 ?_;refine aq 22 (HZ rfl rfl rfl) ?_;refine wk 24 ?_;refine BM 36 (fun hb3=>?_) fun hb3=>?_
 .
  refine wk 12 ?_;refine ax 46 (HB (hc:=(Af hNew 2 (rf 1 [[Ax paths]]))) (hw:=(Af hNone 2 (rf 1 [[Ax paths]]))) [2] [(2,(rf 1 [[Ax paths]]))] rfl rfl Tryz.func153 AF rfl rfl rfl ⟨⟨_,rfl,rfl⟩,trivial⟩ rfl Cf ⟨⟨_,rfl,rfl,rfl⟩,trivial⟩ rfl (Jo paths b.to last.to hpn)) ?_;refine wk 9 ?_;refine asp 49 (fun hb4=>?_) fun hb4=>?_
  .
   refine wk 7 ?_;refine ax 55 (HB (hc:=(Af hNew 2 (rf 1 [[Ax paths]]))) (hw:=(Af hNone 2 (rf 1 [[Ax paths]]))) [2] [(2,(rf 1 [[Ax paths]]))] rfl rfl Tryz.func153 AF rfl rfl rfl ⟨⟨_,rfl,rfl⟩,trivial⟩ rfl Cf ⟨⟨_,rfl,rfl,rfl⟩,trivial⟩ rfl (Jo paths b.els last.els hpn)) ?_;refine wk 6 ?_;refine BM 57 (fun hb5=>?_) fun hb5=>?_
   .
    refine wk 5 ?_;exact bM
   refine wk 5 ?_;exact bM
  refine wk 6 ?_;refine BM 57 (fun hb6=>?_) fun hb6=>?_
  .
   refine wk 5 ?_;exact bM
  refine wk 5 ?_;exact bM
 refine wk 5 ?_;refine asp 40 (fun hb7=>?_) fun hb7=>?_
 .
  refine wk 7 ?_;refine ax 46 (HB (hc:=(Af hNew 2 (rf 1 [[Ax paths]]))) (hw:=(Af hNone 2 (rf 1 [[Ax paths]]))) [2] [(2,(rf 1 [[Ax paths]]))] rfl rfl Tryz.func153 AF rfl rfl rfl ⟨⟨_,rfl,rfl⟩,trivial⟩ rfl Cf ⟨⟨_,rfl,rfl,rfl⟩,trivial⟩ rfl (Jo paths b.to last.to hpn)) ?_;refine wk 9 ?_;refine asp 49 (fun hb8=>?_) fun hb8=>?_
  .
   refine wk 7 ?_;refine ax 55 (HB (hc:=(Af hNew 2 (rf 1 [[Ax paths]]))) (hw:=(Af hNone 2 (rf 1 [[Ax paths]]))) [2] [(2,(rf 1 [[Ax paths]]))] rfl rfl Tryz.func153 AF rfl rfl rfl ⟨⟨_,rfl,rfl⟩,trivial⟩ rfl Cf ⟨⟨_,rfl,rfl,rfl⟩,trivial⟩ rfl (Jo paths b.els last.els hpn)) ?_;refine wk 6 ?_;refine BM 57 (fun hb9=>?_) fun hb9=>?_
   .
    refine wk 5 ?_;exact bM
   refine wk 5 ?_;exact bM
  refine wk 6 ?_;refine BM 57 (fun hb10=>?_) fun hb10=>?_
  .
   refine wk 5 ?_;exact bM
  refine wk 5 ?_;exact bM
 refine wk 9 ?_;refine asp 49 (fun hb11=>?_) fun hb11=>?_
 .
  refine wk 7 ?_;refine ax 55 (HB (hc:=(Af hNew 2 (rf 1 [[Ax paths]]))) (hw:=(Af hNone 2 (rf 1 [[Ax paths]]))) [2] [(2,(rf 1 [[Ax paths]]))] rfl rfl Tryz.func153 AF rfl rfl rfl ⟨⟨_,rfl,rfl⟩,trivial⟩ rfl Cf ⟨⟨_,rfl,rfl,rfl⟩,trivial⟩ rfl (Jo paths b.els last.els hpn)) ?_;refine wk 6 ?_;refine BM 57 (fun hb12=>?_) fun hb12=>?_
  .
   refine wk 5 ?_;exact bM
  refine wk 5 ?_;exact bM
 refine wk 6 ?_;refine BM 57 (fun hb13=>?_) fun hb13=>?_
 .
  refine wk 5 ?_;exact bM
 refine wk 5 ?_;exact bM
theorem nS(old new:BFunc)(paths:List (List Int))(hnl:∀x∈new.blocks,x.ins.length<=1000000000)(hpl:paths.length<=2000000)(hps:∀p∈paths,p.length<=2000000):Pu Tryz.prog 143 [.agg old.cells,.agg new.cells,Ax paths] (.bool (DE old new paths)):=by
 refine qK5 (n:=104) Ah Tryz.func143 rfl rfl ?_;refine FL ?_;refine ax 3 (CC 2 0) ?_;refine ax 4 (CC 2 1) ?_;refine wk 9 ?_;refine BM 16 (fun hb1=>?_) fun hb1=>?_
 .
  refine wk 20 ?_;exact d3
 refine wk 8 ?_;refine BM 24 (fun hb2=>?_) fun hb2=>?_
 .
  refine wk 12 ?_;exact d3
 refine wk 7 ?_;refine asp 30 (fun hb3=>?_) fun hb3=>?_
 .
  refine wk 5 ?_;exact d3
 refine Bg ?_;have h0:paths.length≠0/\paths.length=new.blocks.length/\old.regs=new.regs:=by simp_all[Ax,BK]<;>omega
 refine wk 9 ?_;refine Ap (γ:=Nat) 2 (fun k=>⟨104,(Aa (Aa (Aa (Aa (Aa (Aa AU 2 (Ax paths)) 3 (pZ 0)) 4 (pZ 1)) 31 (Ax paths)) 32 (iN paths.length)) 33 (iN k)),(Af (Af (A0 2) 0 (rf 2 [old.cells])) 1 (rf 2 [new.cells]))⟩) (fun k=>(paths.take k).all (Gi old.blocks.length)=true) (fun k=>paths.length-k) 0 (qJ1 Cq B5) rfl (fun _=>B9) ?_;intro k hF;refine wk 5 ?_;refine asp 34 (fun hb4=>?_) fun hb4=>?_
 .
  refine Ba ?_;have hkl:k<paths.length:=by simpa using hb4
  obtain⟨p,hp⟩:=Ad hkl;have hpp:=hps p (q33 hp);refine wk 5 ?_;refine aq 35 (En Ah (Au hp)) ?_;refine wk 10 ?_;refine asp 39 (fun hb5=>?_) fun hb5=>?_
  .
   exact s9
  refine Bg ?_;have hpe:(p.length==0)=false:=by have h:=hb5;simp at h;simp[h]
  refine wk 8 ?_;refine Ap (γ:=Nat) 2 (fun j=>⟨104,(Aa (Aa (Aa (Aa (Aa (Aa (Aa (Aa (Aa (Aa AU 2 (Ax paths)) 3 (pZ 0)) 4 (pZ 1)) 31 (Ax paths)) 32 (iN paths.length)) 33 (iN k)) 8 (AI p)) 40 (AI p)) 41 (iN p.length)) 42 (iN j)),(Af (Af (A0 2) 0 (rf 2 [old.cells])) 1 (rf 2 [new.cells]))⟩) (fun j=>(p.take j).all (fun i=> !(decide (i<0))&& !(decide (i>=(old.blocks.length:Int))))=true) (fun j=>p.length-j) 0 (qJ1 Cq B5) rfl (fun _=>B9) ?_;intro j hG;refine wk 5 ?_;refine asp 43 (fun hb6=>?_) fun hb6=>?_
  .
   refine Ba ?_;have hjl:j<p.length:=by simpa using hb6
   obtain⟨y,hy⟩:=Ad hjl;refine wk 5 ?_;refine aq 44 (En Ah (Au hy)) ?_;refine wk 8 ?_;refine BM 48 (fun hb7=>?_) fun hb7=>?_
   .
    refine wk 12 ?_;exact oO
   refine wk 7 ?_;refine asp 54 (fun hb8=>?_) fun hb8=>?_
   .
    refine wk 5 ?_;exact oO
   refine wk 3 ?_;refine aq 55 (AS rfl rfl hjl Bq) ?_;exact tJ
  refine Bg ?_;have hge2:p.length<=j:=by simpa using hb6
  refine wk 2 ?_;refine aq 56 (AS rfl rfl hkl Bq) ?_;exact wW
 refine Bg ?_;have hge:paths.length<=k:=by simpa using hb4
 have hall:=CJ hF hge;have hp00:=I9 (paths:=paths) (k:=0) Ab;have hp01:=Lp (FN (q67.1 hall _ (q33 hp00))).1;refine wk 5 ?_;refine aq 58 (An Ah rfl rfl rfl rfl rfl rfl Al (cs:=Gj (DM paths 0)) (C4 hp00) rfl) ?_;refine wk 1 ?_;refine aq 60 (An Ah rfl rfl rfl rfl rfl rfl Al (cs:=[.int .i64 (E6 (DM paths 0))]) xZ rfl) ?_;refine wk 3 ?_;refine asp 62 (fun hb9=>?_) fun hb9=>?_
 .
  exact rZ
 refine Bg ?_;have hz:=hb9;refine wk 9 ?_;refine Ap (γ:=Nat) 2 (fun k=>⟨104,(Aa (Aa (Aa (Aa (Aa (Aa AU 2 (Ax paths)) 3 (pZ 0)) 4 (pZ 1)) 63 (Ax paths)) 64 (iN paths.length)) 65 (iN k)),(Af (Af (A0 2) 0 (rf 2 [old.cells])) 1 (rf 2 [new.cells]))⟩) (fun k=>(paths.zipIdx.take k).all (I1 old new paths)=true) (fun k=>paths.length-k) 0 (qJ1 Cq B5) rfl (fun _=>B9) ?_;intro k hS;refine wk 5 ?_;refine asp 66 (fun hb10=>?_) fun hb10=>?_
 .
  refine Ba ?_;have hkl:k<paths.length:=by simpa using hb10
  obtain⟨p,hp⟩:=Ad hkl;have hpp:=hps p (q33 hp);have hpin:=FN (q67.1 hall p (q33 hp));have hnb:new.blocks[((k:Nat):Int).toNat]?=some (new.blockAt k):=Bp Ab;have hlast:=hpin.2 _ (Jg hpin.1);refine wk 6 ?_;refine aq 68 (En Ah (Au hp)) ?_;refine wk 9 ?_;refine dx 72 (Cn Tryz.func145 (aY old p hpin hpp)) ?_;refine wk 2 ?_;refine qK9 74 rfl (fun hb11=>?_) (fun hb11=>?_)
  .
   refine wk 16 ?_;exact jd
  refine wk 4 ?_;refine dq 79 (An Ah rfl rfl rfl rfl rfl rfl (q46 _) (cs:=(new.blockAt k).cells) (C4 hnb) rfl) ?_;refine wk 2 ?_;refine dx 82 (Cn Tryz.func146 (ql old (new.blockAt k) p hpin hpp (hnl _ (q33 hnb)))) ?_;refine wk 3 ?_;refine asp 84 (fun hb12=>?_) fun hb12=>?_
  .
   refine wk 5 ?_;exact jd
  refine wk 9 ?_;refine dq 90 (A9 (r:=.int .i64 ((p.length-1:Nat):Int)) rfl rfl rfl (by rw[q76];exact Jf (q43.2 hpin.1) Ab)) ?_;refine dq 91 (An Ah rfl rfl rfl rfl rfl rfl (q46 _) (cs:=[.int .i64 (A7 p)]) ye rfl) ?_;refine wk 1 ?_;refine dq 93 (An Ah rfl rfl rfl rfl rfl rfl hlast.1 (C4 (Bp hlast)) rfl) ?_;refine wk 4 ?_;refine dq 98 (An Ah rfl rfl rfl rfl rfl rfl (q46 _) (cs:=(new.blockAt k).cells) (C4 hnb) rfl) ?_;refine wk 2 ?_;refine dx 101 (Cn Tryz.func147 (mH (old.blockAt (A7 p)) (new.blockAt k) paths (fun p hp=>(FN (q67.1 hall p hp)).1))) ?_;refine dq 102 (Iu rfl rfl) ?_;refine wk 1 ?_;refine asp 102 (fun hb13=>?_) fun hb13=>?_
  .
   refine wk 5 ?_;exact jd
  refine wk 3 ?_;refine aq 103 (AS rfl rfl hkl Bq) ?_;refine wk 2 ?_;exact⟨k+1,qV1 D5 FM,(Cv (BG hp) hS (by simp_all[I1])),by omega⟩
 refine Bg ?_;have hge3:paths.length<=k:=by simpa using hb10
 exact sy
theorem pY{f:BFunc}{p:OPass}(hf:I35 f)(hp:uk p)(hk:BL p.kind=true):Lz p f:=
 aV hk (eI f p.f hf.n hp.f.n hf.i hp.f.i p.cert) (nS f p.f p.paths (fun x hx=>qX2 (hp.f.i x hx).1 Al) (qX2 hp.n Al) (fun q hq=>qX2 (hp.q q hq) Al))
theorem OO(a b:Blocks)(ls:List (List OPass))(ha:a.funcs.length<=1048576)(hI:∀f∈a.funcs,I35 f)(hl:∀l∈ls,l.length<=1048576/\∀p∈l,uk p):APure Tryz.prog 18 [.agg a.cells,.agg b.cells,IL ls] (fun r=>r=.bool (Hk a b ls)):=
 bq a b ls ha (fun _ _ f hf g hg l h=>aM f g l (hl l h).1 I35 (hI f hf) (fun _ h=>h.lim) (fun p hp=>⟨((hl l h).2 p hp).f,fun x hx hk=>pY hx ((hl l h).2 p hp) hk⟩))
theorem cz(b:Blocks)(s:ByteArray)(fuel:Int)(m:Mach)(hfu:fuel<=9223372036854775807):Ca Tryz.prog 52 [.ptr 0 1 0 0] (J1 hNew b s fuel m) (.bool (Bi fuel m).1) (J1 hNone b s fuel (Bi fuel m).2):=by
 refine qK4 (n:=22) Ah Tryz.func52 rfl rfl ?_;refine wk 17 ?_;refine asp 11 (fun hb1=>?_) fun hb1=>?_
 .
  refine wk 13 ?_;rw[mr hb1];exact⟨[_],⟨rfl,trivial⟩,rfl,qJ5 (qJ5 (qJ5 (qJ6 _) rfl) rfl) rfl⟩
 refine wk 8 ?_;refine aq 19 (AS rfl rfl (show m.steps<fuel.toNat by have h:=hb1;simp at h;omega) Bq) ?_;refine wk 9 ?_;rw[ga hb1];exact⟨[_],⟨rfl,trivial⟩,rfl,qJ5 (qJ5 (qJ5 (qJ6 _) rfl) rfl) rfl⟩
theorem p8(b:Blocks)(s:ByteArray)(fuel:Int)(call:Int->Mach->Mach)(t:Tac)(regs:List Int)(m:Mach)(n R:Nat)(ht:uj t n R b.words.toNat)(hr:LJ regs)(hlen:regs.length=R)(hm:m.good b.words.toNat)(h0:m.fin=0)(hbw:b.words<=1048576)(hs:s.size<=9223372036854775807)(hwn:FY t.n)
 (hcall:∀(i:Int),0<=i->i<n->Ca Tryz.prog 39 [.ptr 0 1 0 0,.int .i64 i] (J1 hNew b s fuel m) (.tup []) (J1 hNone b s fuel (call i m))):Ca Tryz.prog 53 [.ptr 0 1 0 0,.agg t.cells,.ref 4 R 0 R] (Af (J1 hNew b s fuel m) 4 (rt 1 (BQ regs))) (.tup []) (Af (J1 hNone b s fuel (Bb call s t regs m).2) 4 (rt 1 (BQ (Bb call s t regs m).1))):=by
 refine qK4 (n:=211) Ah Tryz.func53 rfl rfl ?_;refine FL ?_;refine ax 4 (CC 8 5) ?_;refine wk 12 ?_;refine asp 10 (fun hb1=>?_) fun hb1=>?_
 .
  refine Ba ?_;have ho:t.op=1:=by simpa using hb1
  have hd:=ht.d (by simp[setsOp,ho]);refine wk 6 ?_;refine aq 17 (Ae Ah (hm:=Dk) (h0:=hd.1) (hn:=Qh)) ?_;refine qK6 rfl rfl (AY Ah rfl rfl rfl rfl rfl rfl Dk (Ft Qg) rfl Al rfl C1) ?_;refine an ?_;refine⟨[],trivial,rfl,?_⟩;rw[mx ho];exact d5
 refine wk 6 ?_;refine asp 18 (fun hb2=>?_) fun hb2=>?_
 .
  refine Ba ?_;have ho:t.op=2:=by simpa using hb2
  have hd:=ht.d (by simp[setsOp,ho]);have ha:=ht.a (by simp[use1,use2,ho]);refine wk 7 ?_;refine dq 26 (Ae Ah (hm:=Dk) (h0:=ha.1) (hn:=MA)) ?_;refine dq 27 (Ao Ah rfl rfl rfl (.ptr _ _ _ _ _ _ _ _ rfl Dk (Ft O0)) rfl) ?_;refine dq 28 (Ae Ah (hm:=Dk) (h0:=hd.1) (hn:=Qh)) ?_;refine qK8 rfl rfl (AY Ah rfl rfl rfl rfl rfl rfl Dk (Ft Qg) rfl Al rfl C1) ?_;refine wk 1 ?_;refine⟨[],trivial,rfl,?_⟩;rw[ua ho];exact d5
 refine wk 6 ?_;refine asp 29 (fun hb3=>?_) fun hb3=>?_
 .
  refine Ba ?_;have ho:t.op=3:=by simpa using hb3
  have hd:=ht.d (by simp[setsOp,ho]);have ha:=ht.a (by simp[use1,use2,ho]);have hb:=ht.b (by simp[use2,ho]);refine wk 7 ?_;refine dq 37 (Ae Ah (hm:=Dk) (h0:=ha.1) (hn:=MA)) ?_;refine dq 38 (Ao Ah rfl rfl rfl (.ptr _ _ _ _ _ _ _ _ rfl Dk (Ft O0)) rfl) ?_;refine wk 3 ?_;refine dq 42 (Ae Ah (hm:=Dk) (h0:=hb.1) (hn:=(by have:=hb.2;omega))) ?_;refine dq 43 (Ao Ah rfl rfl rfl (.ptr _ _ _ _ _ _ _ _ rfl Dk (Ft (by have:=hb;omega))) rfl) ?_;refine dx 44 (Cn Tryz.func72 (T5 t.k (Ai regs t.a) (Ai regs t.b) (Jv hr _) (Jv hr _))) ?_;refine wk 12 ?_;refine asp 48 (fun hb4=>?_) fun hb4=>?_
  .
   refine wk 9 ?_;refine⟨[],trivial,rfl,?_⟩;rw[vP ho hb4];exact WU
  refine wk 7 ?_;refine aq 56 (Ae Ah (hm:=Dk) (h0:=hd.1) (hn:=Qh)) ?_;refine qK6 rfl rfl (AY Ah rfl rfl rfl rfl rfl rfl Dk (Ft Qg) rfl Al rfl C1) ?_;refine an ?_;refine⟨[],trivial,rfl,?_⟩;rw[t9 ho hb4];exact d5
 refine wk 6 ?_;refine asp 57 (fun hb5=>?_) fun hb5=>?_
 .
  refine Ba ?_;have ho:t.op=4:=by simpa using hb5
  have hd:=ht.d (by simp[setsOp,ho]);have hbs:=ht.base (by simp[ho]);refine wk 10 ?_;refine dq 68 (Ae Ah (hm:=O2) (h0:=hbs.1) (hn:=(by have:=hbs.2;omega))) ?_;refine dq 69 (Ao Ah rfl rfl rfl (.ptr _ _ _ _ _ _ _ _ rfl O2 (Ft (by have:=hbs;have:=hm.len;omega))) rfl) ?_;refine dq 70 (Ae Ah (hm:=Dk) (h0:=hd.1) (hn:=Qh)) ?_;refine qK8 rfl rfl (AY Ah rfl rfl rfl rfl rfl rfl Dk (Ft Qg) rfl Al rfl C1) ?_;refine wk 1 ?_;refine⟨[],trivial,rfl,?_⟩;rw[Abl ho];exact d5
 refine wk 6 ?_;refine asp 71 (fun hb6=>?_) fun hb6=>?_
 .
  refine Ba ?_;have ho:t.op=5:=by simpa using hb6
  have ha:=ht.a (by simp[use1,use2,ho]);have hbs:=ht.base (by simp[ho]);refine wk 10 ?_;refine dq 82 (Ae Ah (hm:=Dk) (h0:=ha.1) (hn:=MA)) ?_;refine dq 83 (Ao Ah rfl rfl rfl (.ptr _ _ _ _ _ _ _ _ rfl Dk (Ft O0)) rfl) ?_;refine dq 84 (Ae Ah (hm:=O2) (h0:=hbs.1) (hn:=(by have:=hbs.2;omega))) ?_;refine qK8 rfl rfl (AY Ah rfl rfl rfl rfl rfl rfl O2 (Ft (by have:=hbs;have:=hm.len;omega)) rfl Al rfl C1) ?_;refine wk 1 ?_;refine⟨[],trivial,rfl,?_⟩;rw[Abk ho];exact qJ5 (qJ5 (qJ5 (qJ5 (qJ6 _) rfl) o7) rfl) rfl
 refine wk 7 ?_;refine asp 85 (fun hb7=>?_) fun hb7=>?_
 .
  refine wk 6 ?_;have ho:t.op=6\/t.op=7:=by simp_all
  have har:=ht.arr ho;have ha:=ht.a (by rcases ho with ho|ho<;>simp[use1,use2,ho]);have hwa:=Jv hr t.a;have hwa1:=hwa.1;have hwa2:=hwa.2;refine wk 3 ?_;refine dq 91 (Ae Ah (hm:=Dk) (h0:=ha.1) (hn:=MA)) ?_;refine dq 92 (Ao Ah rfl rfl rfl (.ptr _ _ _ _ _ _ _ _ rfl Dk (Ft O0)) rfl) ?_;refine dq 93 (FC Ah rfl rfl rfl rfl rfl (r:=Ai regs t.a) bY) ?_;refine wk 2 ?_;refine dq 96 (FC Ah rfl rfl rfl rfl rfl (r:=t.size) bY) ?_;refine wk 2 ?_;refine asp 97 (fun hb8=>?_) fun hb8=>?_
  .
   refine Ba ?_;have hsz:=hb8;refine wk 8 ?_;refine⟨[],trivial,rfl,?_⟩;rw[dc ho hsz];exact WU
  refine Bg ?_;have hsz:=hb8;have hsz2:Ai regs t.a<t.size:=by simpa using hb8
  have hidx:0<=t.base+Ai regs t.a/\t.base+Ai regs t.a<b.words.toNat:=by omega
  refine wk 7 ?_;refine asp 103 (fun hb9=>?_) fun hb9=>?_
  .
   refine Ba ?_;have ho6:t.op=6:=by simpa using hb9
   exact xA
  refine Bg ?_;have ho7:t.op=7:=by have h:=hb9;simp at h;omega
  exact xz
 refine wk 5 ?_;refine asp 85 (fun hb10=>?_) fun hb10=>?_
 .
  refine wk 4 ?_;have ho:t.op=6\/t.op=7:=by simp_all
  have har:=ht.arr ho;have ha:=ht.a (by rcases ho with ho|ho<;>simp[use1,use2,ho]);have hwa:=Jv hr t.a;have hwa1:=hwa.1;have hwa2:=hwa.2;refine wk 3 ?_;refine dq 91 (Ae Ah (hm:=Dk) (h0:=ha.1) (hn:=MA)) ?_;refine dq 92 (Ao Ah rfl rfl rfl (.ptr _ _ _ _ _ _ _ _ rfl Dk (Ft O0)) rfl) ?_;refine dq 93 (FC Ah rfl rfl rfl rfl rfl (r:=Ai regs t.a) bY) ?_;refine wk 2 ?_;refine dq 96 (FC Ah rfl rfl rfl rfl rfl (r:=t.size) bY) ?_;refine wk 2 ?_;refine asp 97 (fun hb11=>?_) fun hb11=>?_
  .
   refine Ba ?_;have hsz:=hb11;refine wk 8 ?_;refine⟨[],trivial,rfl,?_⟩;rw[dc ho hsz];exact WU
  refine Bg ?_;have hsz:=hb11;have hsz2:Ai regs t.a<t.size:=by simpa using hb11
  have hidx:0<=t.base+Ai regs t.a/\t.base+Ai regs t.a<b.words.toNat:=by omega
  refine wk 7 ?_;refine asp 103 (fun hb12=>?_) fun hb12=>?_
  .
   refine Ba ?_;have ho6:t.op=6:=by simpa using hb12
   exact xA
  refine Bg ?_;have ho7:t.op=7:=by have h:=hb12;simp at h;omega
  exact xz
 refine wk 6 ?_;refine asp 142 (fun hb13=>?_) fun hb13=>?_
 .
  refine Ba ?_;have ho:t.op=8:=by simpa using hb13
  have hd:=ht.d (by simp[setsOp,ho]);refine wk 5 ?_;refine aq 147 (Ae Ah (hm:=Dk) (h0:=hd.1) (hn:=Qh)) ?_;refine qK6 rfl rfl (AY Ah rfl rfl rfl rfl rfl rfl Dk (Ft Qg) rfl Al rfl C1) ?_;refine wk 14 ?_;refine asp 157 (fun hb14=>?_) fun hb14=>?_
  .
   refine Ba ?_;have hrd:m.read<s.size:=by have h:=hb14;simp at h;omega
   refine wk 13 ?_;refine dq 169 (Xz (c:=Yl s m.read) Ah rfl rfl rfl rfl rfl (q46 _) (mQ hrd)) ?_;refine dq 170 (FC Ah rfl rfl rfl rfl rfl (r:=((Yl s m.read).toNat:Int)) (by rw[q75];have:=(nW (Yl s m.read)).2;omega)) ?_;refine dq 171 (Ae Ah (hm:=(by rw[q83,Fg,hlen])) (h0:=hd.1) (hn:=Qh)) ?_;refine qK8 rfl rfl (AY Ah rfl rfl rfl rfl rfl rfl (by rw[q83,Fg,hlen]) (Ns (Ft Qg)) rfl Al rfl C1) ?_;refine wk 6 ?_;refine aq 176 (AS rfl rfl hrd Bq) ?_;refine wk 4 ?_;refine⟨[],trivial,rfl,?_⟩;rw[Abh ho hrd];exact d5
  refine Bg ?_;have hrd:¬m.read<s.size:=by have h:=hb14;simp at h;omega
  refine oL ?_;refine⟨[],trivial,rfl,?_⟩;rw[vO ho hrd];exact d5
 refine wk 6 ?_;refine asp 179 (fun hb15=>?_) fun hb15=>?_
 .
  refine Ba ?_;have ho:t.op=9:=by simpa using hb15
  have ha:=ht.a (by simp[use1,use2,ho]);have hwa:=Jv hr t.a;have hwa1:=hwa.1;have hwa2:=hwa.2;refine wk 10 ?_;refine asp 186 (fun hb16=>?_) fun hb16=>?_
  .
   refine Ba ?_;have hou:m.out.length>=65536:=by have h:=hb16;simp[Bx]at h;omega
   refine wk 8 ?_;refine⟨[],trivial,rfl,?_⟩;rw[vN ho hou];exact WU
  refine Bg ?_;have hou:¬m.out.length>=65536:=by have h:=hb16;simp[Bx]at h;omega
  refine wk 10 ?_;refine dq 198 (Ae Ah (hm:=Dk) (h0:=ha.1) (hn:=MA)) ?_;refine dq 199 (Ao Ah rfl rfl rfl (.ptr _ _ _ _ _ _ _ _ rfl Dk (Ft O0)) rfl) ?_;refine dq 200 (FC Ah rfl rfl rfl rfl rfl (er hwa)) ?_;refine dx 201 DB ?_;refine dx 202 (E4 Ah (n:=m.out.length) (m:=1) rfl rfl rfl rfl rfl rfl rfl rfl rfl (by simp[Bx]) rfl rfl (q68 _) (.lst _ _) O3 O4 rfl (by simp[Bx,A6];have:=hm.out;omega) (by simp[Bx,A6];simp only[maxLen];have:=hm.out;omega)) ?_;refine wk 4 ?_;refine⟨[],trivial,rfl,?_⟩;rw[Abg ho hou];exact qJ5 (qJ5 (qJ5 (qJ5 (qJ6 _) (by first|rfl|exact congrArg (fun n=>some (rf 9 [[.int .i64 b.words,Fl b.funcs,.str s,.int .i64 fuel,.ref 1 b.words.toNat 0 b.words.toNat,.ref 2 n 0 n,.int .i64 (m.read:Int),.int .i64 (m.steps:Int),.int .i64 m.fin]])) Aq)) rfl) (by first|rfl|exact congrArg (fun es=>some (rt 1 es)) (by simp[Bx,A6];rfl))) rfl
 refine wk 6 ?_;refine asp 205 (fun hb17=>?_) fun hb17=>?_
 .
  refine Ba ?_;have ho:t.op=10:=by simpa using hb17
  have hcl:=ht.call ho;refine wk 4 ?_;refine ax 210 (GD (hcall t.base hcl.1 hcl.2) [2,1,0] [(0,(rf 9 [Fz b s fuel (call t.base m)])),(1,(rt 1 (BQ ((call t.base m)).words))),(2,(rt 1 (Bx ((call t.base m)).out)))] rfl Tryz.func39 AF rfl rfl rfl Ql rfl Cf Zl rfl) ?_;refine an ?_;refine⟨[],trivial,rfl,?_⟩;rw[vQ ho];exact WU
 refine wk 2 ?_;exact absurd ht.op (by simp_all;omega)
theorem na(b:Blocks)(s:ByteArray)(fuel:Int)(call:Int->Mach->Mach)(i:Int)(f:BFunc)(m:Mach)(hfu:fuel<=9223372036854775807)(hs:s.size<=9223372036854775807)(hbw:b.words<=1048576)(hf:b.funcs[i.toNat]?=some f)(hi:0<=i)(hone:f.one i b.words=true)
 (hfw:∀x∈f.blocks,GL x.ins) (hfl:∀x∈f.blocks,x.ins.length<=maxLen)
 (hcall:∀(j:Int) (m:Mach),0<=j->j<i->m.fin=0->m.good b.words.toNat->Ca Tryz.prog 39 [.ptr 0 1 0 0,.int .i64 j] (J1 hNew b s fuel m) (.tup []) (J1 hNone b s fuel (call j m)))
 (hcg:∀i m,m.good b.words.toNat->(call i m).good b.words.toNat) (hcs:∀i m,m.steps<=(call i m).steps) (hm:m.good b.words.toNat) (h0:m.fin=0):Ca Tryz.prog 39 [.ptr 0 1 0 0,.int .i64 i] (J1 hNew b s fuel m) (.tup []) (J1 hNone b s fuel (LG call s fuel f (fuel.toNat+1) 0 (List.replicate f.regs.toNat 0) m)):=by
 have hsp:=CR hone;refine qK4 (n:=76) Ah Tryz.func39 rfl rfl ?_;refine wk 8 ?_;refine aq 15 (An Ah rfl rfl rfl rfl rfl rfl hi (Ym hf) rfl) ?_;refine wk 1 ?_;refine ax 4 (DA Ah 3) ?_;refine wk 6 ?_;refine ax 19 (AK Ah (n:=f.regs.toNat) (m:=f.regs.toNat) 4 true (hni:=(by have:=hsp.1;omega)) (hnj:=(by have:=hsp.1;omega)) (hby:=(by show 4*f.regs.toNat<=_;have:=hsp.2.1;omega)) (hm:=(by simp only[maxLen];have:=hsp.2.1;omega))) ?_;refine wk 7 ?_;refine Ap (γ:=FG) 5 (fun q=>⟨76,(Aa (Aa (Aa (Aa AU 0 (pZ 0)) 4 (pZ 3)) 5 (.ref 4 f.regs.toNat 0 f.regs.toNat)) 6 (.int .i64 q.i)),(Af (Af (Af (Af (Af (A0 5) 0 (rf 9 [Fz b s fuel q.m])) 1 (rt 1 (BQ (q.m).words))) 2 (rt 1 (Bx (q.m).out))) 3 (rf 2 [f.cells])) 4 (rt 1 (BQ q.regs)))⟩) (fun q=>FInv call s fuel f b.words.toNat f.regs.toNat (LG call s fuel f (fuel.toNat+1) 0 (List.replicate f.regs.toNat 0) m) q) (fun q=>q.g) ⟨0,List.replicate f.regs.toNat 0,m,fuel.toNat+1⟩ (qJ1 B4 z8q) (FInv.first hm h0 hsp.2.2.1) (fun _=>Ac (Ac (Ac (B9) rfl) rfl) rfl) ?_
 intro q hF;refine wk 9 ?_;refine asp 24 (fun hb1=>?_) fun hb1=>?_
 .
  refine Ba ?_;obtain⟨k,hk⟩:=Ad (l:=f.blocks) (k:=q.i.toNat) (by have:=hF.i;omega);have hkm:=q33 hk;have hks:=hsp.2.2.2 k hkm;refine wk 7 ?_;refine aq 28 (An Ah rfl rfl rfl rfl rfl rfl hF.i.1 (Ym hk) rfl) ?_;refine wk 1 ?_;refine ax 7 (DA Ah 5) ?_;refine wk 8 ?_;refine Ap (γ:=IG) 6 (fun r=>⟨76,(Aa (Aa (Aa (Aa (Aa (Aa AU 0 (pZ 0)) 4 (pZ 3)) 5 (.ref 4 f.regs.toNat 0 f.regs.toNat)) 6 (.int .i64 q.i)) 7 (pZ 5)) 8 (iN r.j)),(Af (Af (Af (Af (Af (Af (A0 6) 0 (rf 9 [Fz b s fuel r.m])) 1 (rt 1 (BQ (r.m).words))) 2 (rt 1 (Bx (r.m).out))) 3 (rf 2 [f.cells])) 4 (rt 1 (BQ r.regs))) 5 (rf 5 [k.cells]))⟩) (fun r=>IInv call s fuel k q b.words.toNat f.regs.toNat r) (fun r=>k.ins.length-r.j) ⟨0,q.regs,q.m⟩ (qJ1 B4 B5) hF.start (fun _=>Ac (Ac (Ac (Ac (B9) rfl) rfl) rfl) rfl) ?_;intro r hI;refine wk 9 ?_;refine asp 34 (fun hb2=>?_) fun hb2=>?_
  .
   refine Ba ?_;have hjl:r.j<k.ins.length:=Dq hb2;obtain⟨u,hu⟩:=Ad hjl;have hum:=q33 hu;have hut:=QH (hks.2 u hum);have huw:=hfw k hkm u hum;refine wk 7 ?_;refine ax 38 (GD (cz b s fuel r.m hfu) [2,1,0] [(0,(rf 9 [Fz b s fuel (Bi fuel r.m).2])),(1,(rt 1 (BQ ((Bi fuel r.m).2).words))),(2,(rt 1 (Bx ((Bi fuel r.m).2).out)))] rfl Tryz.func52 AF rfl rfl rfl Ql rfl Cf Zl rfl) ?_;refine wk 2 ?_;refine asp 39 (fun hb3=>?_) fun hb3=>?_
   .
    refine Ba ?_;have hst:(Bi fuel r.m).1=false:=by simpa using hb3
    refine CE ?_;refine⟨[],trivial,rfl,?_⟩;rw[show(LG call s fuel f (fuel.toNat+1) 0 (List.replicate f.regs.toNat 0) m)=_ from Abr hF hk hI hu hst];exact qJ5 (qJ5 (qJ5 (qJ6 _) rfl) rfl) rfl
   refine Bg ?_;have hst:(Bi fuel r.m).1=true:=by simpa using hb3
   have hsf:(Bi fuel r.m).2.fin=0:=by rw[(Rv hst).2];exact hI.fin
   refine wk 7 ?_;refine aq 44 F6 ?_;refine wk 2 ?_;refine ax 47 (GD (p8 b s fuel call u r.regs (Bi fuel r.m).2 i.toNat f.regs.toNat hut hI.regs hI.len (GJ hI.good) hsf hbw hs huw (fun j h1 h2=>hcall j _ h1 Ab hsf (GJ hI.good))) [4,2,1,0] [(0,(rf 9 [Fz b s fuel (Bb call s u r.regs (Bi fuel r.m).2).2])),(1,(rt 1 (BQ ((Bb call s u r.regs (Bi fuel r.m).2).2).words))),(2,(rt 1 (Bx ((Bb call s u r.regs (Bi fuel r.m).2).2).out))),(4,(rt 1 (BQ (Bb call s u r.regs (Bi fuel r.m).2).1)))] rfl Tryz.func53 AF rfl rfl rfl Ql rfl Cf Zl rfl) ?_;refine wk 9 ?_;refine asp 52 (fun hb4=>?_) fun hb4=>?_
   .
    refine Ba ?_;have hnz:=hb4;refine CE ?_;refine⟨[],trivial,rfl,?_⟩;rw[show(LG call s fuel f (fuel.toNat+1) 0 (List.replicate f.regs.toNat 0) m)=_ from Abq hF hk hI hu hst hnz];exact qJ5 (qJ5 (qJ5 (qJ6 _) rfl) rfl) rfl
   refine Bg ?_;have hnz:=hb4;refine wk 3 ?_;refine aq 36 (AS rfl rfl hjl (hfl k hkm)) ?_;refine wk 2 ?_;exact⟨⟨r.j+1,(Bb call s u r.regs (Bi fuel r.m).2).1,(Bb call s u r.regs (Bi fuel r.m).2).2⟩,qV1 D5 FM,(hI.next hcg hcs hu huw hst hnz),(by show k.ins.length-(r.j+1)<k.ins.length-r.j;omega)⟩
  refine Bg ?_;have hge:=Dr hb2;refine wk 5 ?_;refine ax 54 (GD (cz b s fuel r.m hfu) [2,1,0] [(0,(rf 9 [Fz b s fuel (Bi fuel r.m).2])),(1,(rt 1 (BQ ((Bi fuel r.m).2).words))),(2,(rt 1 (Bx ((Bi fuel r.m).2).out)))] rfl Tryz.func52 AF rfl rfl rfl Ql rfl Cf Zl rfl) ?_;refine wk 2 ?_;refine BM 56 (fun hb5=>?_) fun hb5=>?_
  .
   refine wk 7 ?_;exact tp
  have hst:(Bi fuel r.m).1=true:=by simpa using hb5
  refine wk 5 ?_;refine asp 60 (fun hb6=>?_) fun hb6=>?_
  .
   refine wk 2 ?_;exact tp
  refine wk 14 ?_;refine BM 66 (fun hb7=>?_) fun hb7=>?_
  .
   have hv:=wj hks.1 hb7;refine wk 3 ?_;refine aq 70 (Ae Ah (hm:=(by rw[Fg,hI.len])) (h0:=hv.1) (hn:=(by have:=hv.2;omega))) ?_;refine aq 71 (Ao Ah rfl rfl rfl (.ptr _ _ _ _ _ _ _ _ rfl (by rw[Fg,hI.len]) (Ft (by have:=hv;have:=hI.len;omega))) rfl) ?_;refine wk 3 ?_;refine asp 73 (fun hb8=>?_) fun hb8=>?_
   .
    refine wk 6 ?_;exact uG
   refine wk 2 ?_;exact uG
  refine wk 10 ?_;exact uG
 refine Bg ?_;have hbad:=hb1;refine wk 1 ?_;exact absurd hF.fin (by simpa using hbad)
theorem nf(b:Blocks)(s:ByteArray)(fuel:Int)(hfu:fuel<=9223372036854775807)(hs:s.size<=9223372036854775807)(hb:b.right=true)(hbw:b.insW)(hbl:∀f∈b.funcs,∀x∈f.blocks,x.ins.length<=maxLen):
 ∀(n:Nat) (i:Int) (m:Mach),0<=i->i<n->i<b.funcs.length->m.fin=0->m.good b.words.toNat->Ca Tryz.prog 39 [.ptr 0 1 0 0,.int .i64 i] (J1 hNew b s fuel m) (.tup []) (J1 hNone b s fuel (LF b s fuel n i m))
 |0,i,m,h1,h2,_,_,_=>absurd h2 Ab
 |n+1,i,m,h1,h2,h3,h4,h5=>by
  obtain⟨f,hf⟩:=Ad (l:=b.funcs) (k:=i.toNat) Ab;have hr:=HY hb;have hfm:=q33 hf;have hone:f.one i b.words=true:=by
   have:=hr.2.2.2 i.toNat f hf;rwa[q41 h1]at this
  have key:=na b s fuel (LF b s fuel n) i f m hfu hs hr.2.1 hf h1 hone (hbw f hfm) (hbl f hfm)
   (fun j m' j1 j2 j3 j4=>nf b s fuel hfu hs hb hbw hbl n j m' j1 Ab Ab j3 j4) (fun j m' hg=>Uv hbw n j m' hg) (fun j m'=>RC n j m') h5 h4
  have e:LF b s fuel (n+1) i m=LG (LF b s fuel n) s fuel f (fuel.toNat+1) 0 (List.replicate f.regs.toNat 0) m:=by
   rw[LF,hf]
  rw[e];exact key
theorem vn(b:Blocks)(s:ByteArray)(fuel:Int)(hfu:fuel<=9223372036854775807)(hs:s.size<=9223372036854775807)(hb:b.right=true)(hbw:b.insW)(hbl:∀f∈b.funcs,∀x∈f.blocks,x.ins.length<=maxLen):Pu Tryz.prog 26 [.agg b.cells,.str s,.int .i64 fuel] (.agg (kX (mv b s fuel))):=by
 have hr:=HY hb;have hne:0<b.funcs.length:=q43.2 hr.2.2.1;refine qK5 (n:=51) Ah Tryz.func26 rfl rfl ?_;refine oK ?_;refine Ij 0 rfl (fun H ι v=>M2) (fun hfit=>?_);refine bB ?_;refine ax 3 (CC 2 3) ?_;refine ax 6 (DA Ah 4) ?_;refine wk 9 ?_;refine asp 11 (fun hb1=>?_) fun hb1=>?_
 .
  refine wk 7 ?_;exact absurd hne (by have h:=hb1;simp[Fl]at h;simp[h])
 refine wk 3 ?_;refine qV2 (γ:=Unit) (fun _u=>⟨51,(Aa (Aa (Aa (Aa (Aa AU 0 (.agg b.cells)) 1 (.str s)) 3 (pZ 3)) 6 (pZ 4)) 2 (.int .i64 (Iz fuel))),(Af (Af (Af (Af (Af (A0 5) 3 (rf 2 [b.cells])) 4 (rf 3 [[.int .i64 0,.str .empty,.int .i64 0]])) 0 .free) 1 .free) 2 .free)⟩) (fun _u=>True) ?_ ?_
 .
  refine wk 5 ?_;refine asp 14 (fun hb2=>?_) fun hb2=>?_
  .
   refine wk 4 ?_;exact wP
  refine wk 2 ?_;exact wP
 intro _u _;refine oK ?_;have hfu0:Iz fuel<=9223372036854775807:=by unfold Iz;cases decide (fuel<0)<;>simp<;>omega
 have m0_good:(m0 b).good b.words.toNat:=⟨by simp[m0],SG _,by simp[m0]⟩;refine wk 6 ?_;refine dx 20 (AK Ah (n:=b.words.toNat) (m:=b.words.toNat) 1 true (hni:=(by have:=hr.1;omega)) (hnj:=(by have:=hr.1;omega)) (hby:=(by show 4*b.words.toNat<=_;have:=hr.2.1;omega)) (hm:=(by simp only[maxLen];have:=hr.2.1;omega))) ?_;refine wk 1 ?_;refine dx 22 (CC 9 0) ?_;refine wk 3 ?_;refine qJ0 (.dryCell 0 0 5 2 1 true rfl rfl rfl rfl rfl Al) ?_;refine AGo.sub (s':=⟨51,(Aa (Aa (Aa (Aa (Aa AU 0 (.agg b.cells)) 1 (.str s)) 3 (pZ 3)) 6 (pZ 4)) 7 (pZ 0)),(Af (Af (Af (Af (Af hNone 0 (rf 9 [Fz b s (Iz fuel) (m0 b)])) 1 (rt 1 (BQ ((m0 b)).words))) 2 (rt 1 (Bx ((m0 b)).out))) 3 (rf 2 [b.cells])) 4 (rf 3 [[.int .i64 0,.str .empty,.int .i64 0]]))⟩) (qJ1 B4 z8q) ?_;refine bB ?_;have hmx:=hfit.1;refine wk 4 ?_;refine aq 27 (A9 (r:=.int .i64 ((b.funcs.length:Int)-1)) rfl rfl rfl (by simp only[A8,BP,isShift,qZ3,qZ8];rw[q76,B8 Ab (by simp only[maxLen]at hmx;omega)])) ?_;refine ax 28 (GD (nf b s (Iz fuel) hfu0 hs hb hbw hbl b.funcs.length ((b.funcs.length:Int)-1) (m0 b) Ab Ab Ab rfl m0_good) [2,1,0] [(0,(rf 9 [Fz b s (Iz fuel) (LF b s (Iz fuel) b.funcs.length ((b.funcs.length:Int)-1) (m0 b))])),(1,(rt 1 (BQ ((LF b s (Iz fuel) b.funcs.length ((b.funcs.length:Int)-1) (m0 b))).words))),(2,(rt 1 (Bx ((LF b s (Iz fuel) b.funcs.length ((b.funcs.length:Int)-1) (m0 b))).out)))] rfl Tryz.func39 AF rfl rfl rfl Ql rfl Cf Zl rfl) ?_;refine wk 2 ?_;refine qV2 (γ:=Mach) (fun m=>⟨51,(Aa (Aa (Aa (Aa (Aa AU 0 (.agg b.cells)) 1 (.str s)) 3 (pZ 3)) 6 (pZ 4)) 7 (pZ 0)),(Af (Af (Af (Af (Af hNone 0 (rf 9 [Fz b s (Iz fuel) m])) 1 (rt 1 (BQ (m).words))) 2 (rt 1 (Bx (m).out))) 3 (rf 2 [b.cells])) 4 (rf 3 [[.int .i64 0,.str .empty,.int .i64 0]]))⟩) (fun m=>m=mv b s fuel) ?_ ?_
 .
  refine wk 8 ?_;refine asp 33 (fun hb3=>?_) fun hb3=>?_
  .
   refine wk 7 ?_;exact⟨{(LF b s (Iz fuel) b.funcs.length ((b.funcs.length:Int)-1) (m0 b))with fin:=1},qJ1 B4 B5,(by simp[mv, *])⟩
  refine wk 2 ?_;exact⟨(LF b s (Iz fuel) b.funcs.length ((b.funcs.length:Int)-1) (m0 b)),qJ1 B4 B5,(by simp[mv, *])⟩
 intro m hm;refine oK ?_;refine qJ0 (.freezeCell 0 0 5 2 rfl rfl rfl rfl (by simp[Bx]) Al) ?_;refine wk 9 ?_;refine dq 45 (ac (l:=m.out) Ah rfl (by show some (AV.lst false _)=_;rw[q95,q20 (by simp[Bx])]) rfl rfl rfl rfl rfl rfl) ?_;refine wk 8 ?_;refine⟨[_],⟨⟨_,_,_,_,rfl,rfl,.ptr _ _ _ _ _ _ _ _ rfl rfl rfl,rfl⟩,trivial⟩,?_,rfl⟩;subst hm;rfl
set_option maxRecDepth 100000
theorem eW:NP tinyB=tinyC:=by
 have hd:∀(f:BFunc) (x:Block) (v:Nat),x.fin=3->ET f x v=false:=fun f x v h=>by
  have hn:x.nexts=[]:=by unfold Block.nexts;rw[h];rfl
  unfold ET Ei outB;rw[hn,h];rfl
 have hc:∀(m:List Tac) (t:Tac) (v:Nat),t.pure=true->t.sets=(v:Int)->need v m false=false->iF ⟨3,[⟨t::m,3,0,0,0⟩]⟩ ⟨3,[⟨m,3,0,0,0⟩]⟩:=fun m t v h1 h2 h3=>⟨0,_,[],t,m,v,{hx:=rfl,hi:=rfl,pure:=h1,hv:=h2,dead:=by rw[hd _ _ _ rfl];exact h3,hg:=rfl}⟩
 refine(nB (.step (hc _ _ 0 rfl rfl rfl) (.step (hc _ _ 1 rfl rfl rfl) (.refl _))) ?_).symm
 rintro g ⟨c,x,l1,t,l2,v,h⟩
 have hx:=h.hx;have hi:=h.hi;have h0:c=0:=by
  have:=(q05.1 hx).1;have:c<1:=this;omega
 subst h0;obtain rfl:=q86 hx;have hde:=h.dead;rw[hd _ _ _ rfl]at hde;have hp:=h.pure;have hv:=h.hv
 match l1,hi with
 | [],hi=>
  obtain⟨rfl,rfl⟩:=List.cons.inj hi;have:v=2:=by have:(2:Int)=v:=hv;omega
  subst this
  cases hde
 | [a],hi=>
  obtain⟨_,h2⟩:=List.cons.inj hi;obtain⟨rfl,_⟩:=List.cons.inj h2
  cases hp
 |_::_::l,hi=>
  have:=congrArg List.length hi;simp at this
theorem eU:LD (F9 tinyA) [1,2,3,4]=F9 tinyC:=by
 have h:Nz Cj [1,2,3,4] tinyA=(NP tinyA.fold.forward).tidy:=rfl;unfold LD;show(⟨0,[Nz Cj [1,2,3,4] tinyA]⟩:Blocks)=_;rw[h,eV,show tinyB.forward=tinyB by decide,eW,show tinyC.tidy=tinyC by decide];rfl
theorem vc:(F9 tinyA).insW:=fun f hf x hx t ht=>by
 obtain rfl:=q47.1 hf;obtain rfl:=q47.1 hx;simp only[q99,List.not_mem_nil,or_false]at ht;rcases ht with rfl|rfl|rfl|rfl<;>exact⟨by decide,by decide⟩
theorem tiny_all:All35 (F9 tinyA):=All35.of Al vc
theorem MK:Pu Tryz.prog 30 [] (.agg (F9 tinyA).cells):=by
 refine qK5 (n:=13) Ah Tryz.func30 rfl rfl ?_;refine wk 40 ?_;refine ax 0 (DA Ah 0) ?_;refine wk 40 ?_;refine ax 6 DB ?_;refine wk 40 ?_;refine ax 1 (DA Ah 1) ?_;refine wk 40 ?_;refine ax 9 DB ?_;refine wk 40 ?_;refine ax 11 DB ?_;exact rO
theorem ix:Pu Tryz.prog 14 [] (.bool true):=by
 have hv:∀k∈([1,2,3,4]:List Int),BL k=true:=by decide
 have hopt:=tiny_all.opt [1,2,3,4];have hoc:Hk (F9 tinyA) (LD (F9 tinyA) [1,2,3,4]) [EA Cj [1,2,3,4] tinyA]=true:=Rm tiny_all hv;have hno:Hk (F9 tinyA) (LD (F9 tinyA) [1,2,3,4]) []=false:=by simp[Hk,F9]
 have hlp:∀l∈[EA Cj [1,2,3,4] tinyA],l.length<=1048576/\∀p∈l,uk p:=fun l hl=>by
  obtain rfl:=q47.1 hl;refine⟨by rw[Gh];decide,fun p hp=>?_⟩;obtain⟨g,k,hg,rfl⟩:=Rb _ tinyA (tiny_all.e 0 tinyA rfl) p hp;exact(hg.p35 k).1
 have hI:∀f∈(F9 tinyA).funcs,I35 f:=fun f hf=>by
  obtain rfl:=q47.1 hf;exact(tiny_all.e 0 tinyA rfl).i35
 refine qK5 (n:=64) Ah Tryz.func14 rfl rfl ?_;refine wk 40 ?_;refine ax 9 (Cn Tryz.func30 MK) ?_;refine wk 40 ?_;refine ax 10 DB ?_;refine ax 11 (Cn Tryz.func15 (lU (F9 tinyA) tiny_all [1,2,3,4] Al hv)) ?_;refine wk 40 ?_;refine ax 1 (DA Ah 0) ?_;refine wk 40 ?_;refine ax 16 (Cn Tryz.func26 ((vn (LD (F9 tinyA) [1,2,3,4]) ByteArray.empty 99 Al Al hopt.r hopt.insW (fun f hf x hx=>by obtain⟨i,hi⟩:=q35 hf;have:=(hopt.e i f hi).len.2 x hx;simp only[maxLen];omega)).mono (fun r h=>by rw[h,eU,ke]))) ?_;refine ax 4 (DA Ah 1) ?_;refine wk 40 ?_;refine ax 18 (Cn Tryz.func30 MK) ?_;refine wk 40 ?_;refine ax 19 DB ?_;refine ax 20 (Cn Tryz.func15 (cZ (F9 tinyA) [5] Al Al)) ?_;refine wk 40 ?_;refine ax 5 (DA Ah 2) ?_;refine wk 40 ?_;refine qK9 40 rfl (fun hb1=>?_) (fun hb1=>absurd hb1 (by decide+kernel));refine wk 40 ?_;refine dq 47 (An Ah rfl rfl rfl rfl rfl rfl Al rfl rfl) ?_;refine wk 5 ?_;refine dx 53 (Cn Tryz.func30 MK) ?_;refine wk 2 ?_;refine dx 56 (Cn Tryz.func18 ((OO (F9 tinyA) (LD (F9 tinyA) [1,2,3,4]) [EA Cj [1,2,3,4] tinyA] Al hI hlp).mono (fun r h=>by rw[h,hoc]))) ?_
 refine wk 2 ?_;refine dx 59 (Cn Tryz.func30 MK) ?_;refine wk 1 ?_;refine dx 61 (Cn Tryz.func18 (SU ((OO (F9 tinyA) (LD (F9 tinyA) [1,2,3,4]) [] Al hI (fun l hl=>by cases hl)).mono (fun r h=>by rw[h,hno])))) ?_;exact bQ
set_option maxRecDepth 100000
theorem Oj(b:Blocks)(ks:List Int)(hL:b.Lim)(hW:b.insW)(hkl0:ks.length<=1048576):Pu Tryz.prog 3 [.agg b.cells,AI ks] (.bool true):=by
 have hawake:=ix;refine qK5 (n:=100) Ah Tryz.func3 rfl rfl ?_;refine wk 40 ?_;refine ax 2 (CC 2 0) ?_;refine wk 40 ?_;refine ax 11 (Cn Tryz.func13 (ZM b hL)) ?_;refine wk 2 ?_;refine BM 13 (fun hb1=>?_) fun hb1=>?_
 .
  refine wk 40 ?_;refine ax 23 (Cn Tryz.func14 hawake) ?_;exact bQ
 have hsm:Ir b=true:=by simpa using hb1
 refine wk 4 ?_;refine BM 17 (fun hb2=>?_) fun hb2=>?_
 . refine wk 40 ?_;refine asp 22 (fun hb3=>?_) fun hb3=>?_
   .
    refine wk 40 ?_;refine ax 23 (Cn Tryz.func14 hawake) ?_;exact bQ
   have hbad:(ks.all BL&&decide (ks.length<=20))=false:=by
    have h:¬ks.length<=20:=by have:=hb3;simp[AI]at this;omega
    rw[q89 h,q97]
   exact tr
 have hk6:ks.length<=6:=by have:=hb2;simp[AI]at this;omega
 cases hps:ks.all BL with
 |false=>
  have hbad:(ks.all BL&&decide (ks.length<=20))=false:=by rw[hps,Bool.false_and]
  exact tr
 |true=>
  have hv:=q67.1 hps;have hall:=All35.of hsm hW;have hopt:=hall.opt ks;have hlp:∀l∈b.funcs.map (EA Cj ks),l.length=ks.length/\∀p∈l,uk p/\p.cert.same.length<=1048576:=fun l hl=>by
   obtain⟨f,hf,rfl⟩:=qX3.1 hl;obtain⟨i,hi⟩:=q35 hf;refine⟨Gh Cj ks f,fun p hp=>?_⟩;obtain⟨g,k,hg,rfl⟩:=Rb ks f (hall.e i f hi) p hp;exact hg.p35 k
  have hI:∀f∈b.funcs,I35 f:=fun f hf=>by
   obtain⟨i,hi⟩:=q35 hf;exact(hall.e i f hi).i35
  have hn6:=hall.n;have hoc:=Rm hall hv;have hgood:(ks.all BL&&decide (ks.length<=20))=true:=by rw[hps,q96 Ab];rfl
  refine wk 40 ?_;refine ax 27 (Cn Tryz.func15 (lU b hall ks Ab hv)) ?_;refine wk 40 ?_;refine ax 5 (DA Ah 1) ?_;refine wk 40 ?_;refine ax 32 (Cn Tryz.func16 (Rg ks hkl0)) ?_;rw[hgood];refine wk 40 ?_;refine ax 56 (Cn Tryz.func17 ((Xt b (LD b ks) _ Ab hI (fun l hl=>⟨by rw[(hlp l hl).1];exact hkl0,(hlp l hl).2⟩)).mono (fun r h=>by rw[h,hoc]))) ?_;refine wk 40 ?_;refine ax 63 (Cn Tryz.func18 ((OO b (LD b ks) _ Ab hI (fun l hl=>⟨by rw[(hlp l hl).1];exact hkl0,fun p hp=>((hlp l hl).2 p hp).1⟩)).mono (fun r h=>by rw[h,hoc]))) ?_;refine wk 40 ?_;have hLn:(b.funcs.map (EA Cj ks)).length=b.funcs.length:=q76 _;generalize hLL:b.funcs.map (EA Cj ks)=L at*;refine qJ7 (γ:=Nat) (fun i=>⟨100,(Aa (Aa (Aa AU 1 (AI ks)) 6 (IL L)) 8 (iN i)),hNone⟩) (fun i=>i<=L.length) (fun i=>L.length-i) 0 (qJ1 B4 (qJ6 _)) (qZ1 _) ?_;intro i hi
  refine wk 40 ?_;refine asp 69 (fun hb4=>?_) fun hb4=>?_
  . have hil:i<L.length:=by have h:=hb4;simp[IL]at h;exact h
    obtain⟨l,hl⟩:=Ad hil;have hlen:=(hlp l (q33 hl)).1;refine wk 40 ?_;refine aq 74 (En Ah (Au hl)) ?_;refine wk 40 ?_;refine asp 79 (fun hb5=>?_) fun hb5=>?_
    . exfalso;simp[hlen]at hb5
    refine wk 40 ?_;refine qJ7 (γ:=Nat) (fun j=>⟨100,(Aa (Aa (Aa (Aa AU 1 (AI ks)) 6 (IL L)) 8 (iN i)) 9 (iN j)),hNone⟩) (fun j=>j<=ks.length) (fun j=>ks.length-j) 0 (qJ1 B4 (qJ6 _)) (qZ1 _) ?_;intro j hj;refine wk 40 ?_;refine asp 83 (fun hb6=>?_) fun hb6=>?_
    . have hjl:j<ks.length:=by have h:=hb6;simp[AI]at h;exact h
      obtain⟨q,hq⟩:=Ad hjl;obtain⟨p,hp⟩:=Ad (l:=l) (k:=j) Ab;have hkind:p.kind=q:=by
       rw[<-hLL,q54]at hl;obtain⟨f,_,rfl⟩:=q22.1 hl;exact aP ks f j q p hv hq hp
      refine wk 40 ?_;refine dq 88 (En Ah (Au hl)) ?_;refine wk 2 ?_;refine dq 91 (En Ah (Au hp)) ?_;refine wk 4 ?_;refine dq 96 (En Ah (Au hq)) ?_;refine wk 40 ?_;refine asp 98 (fun hb7=>?_) fun hb7=>?_
      . exfalso;simp[hkind]at hb7
      refine wk 4 ?_;refine aq 85 (AS rfl rfl hjl Bq) ?_;refine wk 40 ?_;exact⟨j+1,qJ1 B4 (qJ6 _),hjl,by omega⟩
    refine wk 4 ?_;refine aq 71 (AS rfl rfl hil Bq) ?_;refine wk 40 ?_;exact⟨i+1,qJ1 B4 (qJ6 _),hil,by omega⟩
  refine wk 40 ?_;refine ax 99 (Cn Tryz.func14 hawake) ?_;exact bQ
theorem Nf(b:Blocks)(ks:List Int)(hb:b.Lim/\b.insW)(hk:ks.length<=1048576):Pu Tryz.prog 3 [.agg b.cells,AI ks] (.bool true):=Oj b ks hb.1 hb.2 hk
end Go.Proofs.YtbbfelelocccmaaGreat.Sv
namespace Go.Proofs.YtbbfelelocccmaaGreat
open Go.ChangeShapes Go.WideShapes Go.ChangeAt Go.RowKit Sv
set_option linter.unusedVariables false

set_option maxRecDepth 100000 in
theorem optimizeHolds_lifted(os:Os)(started:os.Started)(H:Type)(enc:TypeId×Value->H)(F:Stop.Interp):
 ReturnsInHanded {} Tryz.checked os 3 .any ((Rows.OpenSpec.upto Rows.optimizeHoldsSpec).pre6 enc Tryz.prog Tryz.f3 Rows.optimizeHoldsUptoRow.domain false) (((Rows.OpenSpec.upto Rows.optimizeHoldsSpec).at F).post enc Tryz.prog Tryz.f3 false true false false):=by
 refine returnsInHanded_of_cond_sized (C:=Tryz.checked) (s:=Rows.OpenSpec.upto Rows.optimizeHoldsSpec) (k:=Rows.uptoSmall) rfl own' started (by kernel_rfl) Tryz.func3
  (OpenSpec.witness (enc:=enc) (C:=Tryz.checked) (s:=Rows.OpenSpec.upto Rows.optimizeHoldsSpec) (k:=Rows.uptoSmall) rfl false ⟨#[],#[.agg #[.int .i64 0,.slice none 0 0],.slice none 0 0],[]⟩ 8 (by kernel_rfl) (by kernel_rfl) (by kernel_rfl) (x:=([.agg [.lit (.int .i64 0),.nil],.nil],[],[])) (by kernel_rfl) rfl (by kernel_rfl)) ?_
 intro W base args ds gs before hval0 hW hcnd hk hwt0 hh;have hval:∀(j:Nat) t v,Tryz.f3.params[j]?=some t->args[j]?=some v->Value.okWide Tryz.prog W .any base t v:=hval0
 have hW':=hW;obtain⟨p,q,hA0,hV,rfl,hfz,hnd⟩:=hW;have hA:DataW.TrodAll enc Tryz.prog W 0 (fun _=>true) true Tryz.f3.params.toList args.toList ds p:=hA0;have hwt:(DataW.weightsEach Tryz.prog (Tryz.f3.params.toList++(Rows.OpenSpec.upto Rows.optimizeHoldsSpec).bare.plain.varTypes Tryz.prog) (ds++gs)).all (· <=reachBytes)=true:=hwt0;rw[Tryz.params3]at hA hval hwt;obtain⟨v0,vs0,d0,ds0,p0,q0,hargs,rfl,rfl,h0,r0⟩:=trodAll_cons hA;obtain⟨v1,vs1,d1,ds1,p1,q1,rfl,rfl,rfl,h1,r1⟩:=trodAll_cons r0;obtain⟨rfl,rfl,rfl⟩:=trodAll_nil r1;obtain rfl:args= #[v0,v1]:=by cases args;simp_all
 obtain⟨rfl,rfl⟩:=trodVars_none hV;obtain⟨x0,e0,g0⟩:=arg_oneR h0 (Ex hwt (i:=0) rfl rfl) decBlocksR;have u0:=upto_get hk (i:=0) rfl;obtain⟨x1,e1,g1⟩:=arg_oneR h1 (Ex hwt (i:=1) rfl rfl) decIntsR;have u1:=upto_get hk (i:=1) rfl;exact gr laidOut' rfl (by kernel_rfl) rfl bool' rfl rfl rfl hW' (.cons (e0.val (az Ah rfl rfl (hval 0 24 v0 rfl rfl))) (.cons (e1.val1 (okWide_cell Ah rfl rfl (hval 1 _ v1 rfl rfl))) .nil)) (Nf x0 x1 (blocksI_row g0 u0) (ints23_row g1 u1)) (fun g l h=>by cases h)

theorem optimizeHolds_holds:Rows.OptimizeHoldsUptoSaid:=
 OpenClaim.holds_of_cond 3 Tryz.f3 rfl rfl rfl rfl rfl rfl rfl ⟨rfl,rfl,rfl,rfl,rfl⟩ rfl rfl rfl rfl rfl (by kernel_rfl) Tryz.func3 (by kernel_rfl)
  (q58 (by kernel_rfl)) (by unfold Func.isWrapper;first|(rw[qK0 (by decide+kernel)];kernel_rfl)|(rw[qZ9 (by decide+kernel)];exact⟨rfl,rfl⟩))
  (fun os started H enc _ F=>optimizeHolds_lifted os started H enc F)

end Go.Proofs.YtbbfelelocccmaaGreat
