/-
  WALKS: printed by a program of our own from the code's tree.
-/
import Derived.Test.YtbbfelelocccmaaGreatPOptimizeHolds5
import Derived.Test.YtbbfelelocccmaaGreatPOptimizeHolds6
import Derived.Test.YtbbfelelocccmaaGreatPOptimizeHolds2
import Derived.Test.YtbbfelelocccmaaGreatPOptimizeHolds3
import Derived.Test.YtbbfelelocccmaaGreatPOptimizeHolds7
import Derived.Test.YtbbfelelocccmaaGreatPOptimizeHolds4
set_option linter.unusedVariables false
set_option linter.unusedSimpArgs false
set_option maxRecDepth 100000
set_option maxHeartbeats 2000000
namespace Go.Proofs.YtbbfelelocccmaaGreat.Sv
open Go
theorem lV(b:Blocks)(ks:List Int)(G:BFunc->Int->OPass)(I:BFunc->Prop)(hL:b.Lim)(hks:ks.length<=20)(hv:∀k∈ks,BL k=true)(hI0:∀f∈b.funcs,I f)(hS:∀f,I f->∀k∈ks,I (G f k).f/\Pu Tryz.prog 21 [.agg f.cells,.int .i64 k] (.tup [.agg (G f k).f.cells,.agg (G f k).cells,.int .i64 0])):Pu Tryz.prog 15 [.agg b.cells,AI ks] (.tup [.agg (⟨b.words,b.funcs.map (Nz G ks)⟩:Blocks).cells,IL (b.funcs.map (EA G ks)),.int .i64 0]):=by
 refine qK5 (n:=90) Ah Tryz.func15 rfl rfl ?_;refine FL ?_;refine ax 2 (CC 2 0) ?_;refine ax 4 (DA Ah 1) ?_;refine wk 10 ?_;refine asp 19 (fun hb1=>?_) fun hb1=>?_
 .
  refine wk 9 ?_;exfalso;simp_all;omega
 refine wk 10 ?_;refine Ap (γ:=Nat) 2 (fun k=>⟨90,(Aa (Aa (Aa (Aa (Aa (Aa (Aa (Aa AU 1 (AI ks)) 2 (pZ 0)) 4 (pZ 1)) 5 .nil) 6 (.int .i64 0)) 21 (AI ks)) 22 (iN ks.length)) 23 (iN k)),(Af (Af (A0 2) 0 (rf 2 [b.cells])) 1 (rf 2 [[.int .i64 0,.nil]]))⟩) (fun k=>True) (fun k=>ks.length-k) 0 (qJ1 Cq B5) trivial (fun _=>B9) ?_;intro k _;refine wk 5 ?_;refine asp 24 (fun hb2=>?_) fun hb2=>?_
 .
  refine Ba ?_;have hkl:k<ks.length:=by have h:=hb2;simp at h;omega
  obtain⟨q,hq⟩:=Ad hkl;refine wk 5 ?_;refine aq 25 (En Ah (Au hq)) ?_;refine wk 6 ?_;refine ax 29 (Cn Tryz.func31 (P6 _)) ?_;refine wk 11 ?_;refine asp 33 (fun hb3=>?_) fun hb3=>?_
  .
   refine wk 9 ?_;exfalso;have h:=hv q (q33 hq);simp_all
  refine wk 3 ?_;refine aq 35 (AS rfl rfl hkl Bq) ?_;refine wk 2 ?_;exact⟨k+1,qV1 D5 FM,trivial,by omega⟩
 refine Bg ?_
 skip
 refine wk 8 ?_;refine dx 41 (AK Ah (n:=b.funcs.length) (m:=b.funcs.length) 2 true (hby:=(by show 32*b.funcs.length<=_;have:=hL.n;omega)) (hm:=jq)) ?_;refine wk 1 ?_;refine dx 11 (DA Ah 3) ?_;refine wk 7 ?_;refine ax 46 (AK Ah (n:=b.funcs.length) (m:=b.funcs.length) 4 false (hby:=(by show 24*b.funcs.length<=_;have:=hL.n;omega)) (hm:=jq)) ?_;refine wk 11 ?_;refine Ap (γ:=Nat) 5 (fun k=>⟨90,(Aa (Aa (Aa (Aa (Aa (Aa (Aa (Aa AU 1 (AI ks)) 2 (pZ 0)) 4 (pZ 1)) 11 (pZ 3)) 12 (.ref 4 b.funcs.length 0 b.funcs.length)) 48 (Fl b.funcs)) 49 (iN b.funcs.length)) 50 (iN k)),(Af (Af (Af (Af (Af (A0 5) 0 (rf 2 [b.cells])) 1 (rf 2 [[.int .i64 0,.nil]])) 2 (rt 2 ((((b.funcs.map (Nz G ks)).take (k)).map BFunc.cells)++List.replicate (b.funcs.length-(k)) [AV.int .i64 0,AV.nil]))) 3 (rf 2 [[.int .i64 b.words,.ref 2 b.funcs.length 0 b.funcs.length]])) 4 (rf 1 ((((b.funcs.map (EA G ks)).take (k)).map (fun x=>[CQ x]))++List.replicate (b.funcs.length-(k)) [AV.nil])))⟩) (fun k=>k<=b.funcs.length) (fun k=>b.funcs.length-k) 0 (qJ1 Cq B5) (qZ1 _) (fun _=>Ac (Ac (Ac (B9) rfl) rfl) rfl) ?_
 intro k hk;refine wk 5 ?_;refine asp 51 (fun hb4=>?_) fun hb4=>?_
 .
  refine Ba ?_;have hkl:k<b.funcs.length:=by have h:=hb4;simp at h;omega
  obtain⟨f,hf⟩:=Ad hkl;have hfI:=hI0 f (q33 hf);refine wk 6 ?_;refine aq 53 (En Ah (Au hf)) ?_;refine wk 1 ?_;refine ax 14 (DA Ah 5) ?_;refine wk 9 ?_;refine ax 59 (AK Ah (n:=ks.length) (m:=ks.length) 6 true (hby:=(by show 88*ks.length<=_;omega))) ?_;refine aq 60 (Ae Ah rfl rfl rfl rfl rfl rfl rfl (AL (by simp:(b.funcs.map (EA G ks)).length=b.funcs.length) (qX0 hkl)) rfl (q46 _) Ab) ?_;refine qK6 rfl rfl (AY Ah rfl rfl rfl rfl rfl rfl (AL (by simp:(b.funcs.map (EA G ks)).length=b.funcs.length) (qX0 hkl)) (CH (by simp:(b.funcs.map (EA G ks)).length=b.funcs.length) hkl) rfl Al rfl C1) ?_;refine wk 9 ?_;refine Ap (γ:=Nat) 7 (fun j=>⟨90,(Aa (Aa (Aa (Aa (Aa (Aa (Aa (Aa (Aa (Aa (Aa (Aa (Aa AU 1 (AI ks)) 2 (pZ 0)) 4 (pZ 1)) 11 (pZ 3)) 12 (.ref 4 b.funcs.length 0 b.funcs.length)) 48 (Fl b.funcs)) 49 (iN b.funcs.length)) 50 (iN k)) 13 (iN k)) 14 (pZ 5)) 61 (AI ks)) 62 (iN ks.length)) 63 (iN j)),(Af (Af (Af (Af (Af (Af (Af (A0 7) 0 (rf 2 [b.cells])) 1 (rf 2 [[.int .i64 0,.nil]])) 2 (rt 2 ((((b.funcs.map (Nz G ks)).take (k)).map BFunc.cells)++List.replicate (b.funcs.length-(k)) [AV.int .i64 0,AV.nil]))) 3 (rf 2 [[.int .i64 b.words,.ref 2 b.funcs.length 0 b.funcs.length]])) 4 (rf 1 (((((b.funcs.map (EA G ks)).take (k)).map (fun x=>[CQ x]))++List.replicate (b.funcs.length-(k)) [AV.nil]).set (0+((k:Nat):Int).toNat) [AV.ref 6 ks.length 0 ks.length]))) 5 (rf 2 [(Nz G (ks.take j) f).cells])) 6 (rt 5 ((((EA G ks f).take j).map OPass.cells)++List.replicate (ks.length-j) [AV.int .i64 0,AV.nil,AV.nil,AV.int .i64 0,AV.nil])))⟩) (fun j=>j<=ks.length/\I (Nz G (ks.take j) f)) (fun j=>ks.length-j) 0 (qJ1 Cq B5) ⟨qZ1 _,hfI⟩ (fun _=>Ac (Ac (Ac (Ac (Ac (B9) rfl) rfl) rfl) rfl) rfl) ?_
  intro j hJ;refine wk 5 ?_;refine asp 64 (fun hb5=>?_) fun hb5=>?_
  .
   refine Ba ?_;have hjl:j<ks.length:=by have h:=hb5;simp at h;omega
   obtain⟨q,hq⟩:=Ad hjl;have hqs:=hS _ hJ.2 q (q33 hq);refine wk 6 ?_;refine aq 66 (En Ah (Au hq)) ?_;refine wk 7 ?_;refine dq 71 (Ae Ah rfl rfl rfl rfl rfl rfl rfl (Nw (by simp:(b.funcs.map (EA G ks)).length=b.funcs.length) (qX0 hkl)) rfl (q46 _) Ab) ?_;refine dq 72 (Ao Ah rfl rfl rfl (.ptr _ _ _ _ _ _ _ _ rfl (Nw (by simp:(b.funcs.map (EA G ks)).length=b.funcs.length) (qX0 hkl)) (Nx (by simp:(b.funcs.map (EA G ks)).length=b.funcs.length) hkl)) rfl) ?_;refine wk 3 ?_;refine dx 76 (Cn Tryz.func21 ((hS _ hJ.2 q (q33 hq)).2)) ?_;refine wk 5 ?_;refine dq 80 (Ae Ah rfl rfl rfl rfl rfl rfl rfl (AL (Gh G ks f) (qX0 hjl)) rfl (q46 _) Ab) ?_;refine qK8 rfl rfl (AY Ah rfl rfl rfl rfl rfl rfl (AL (Gh G ks f) (qX0 hjl)) (CH (Gh G ks f) hjl) rfl Al rfl C1) ?_;refine wk 2 ?_;refine aq 81 (AS rfl rfl hjl Bq) ?_;refine wk 2 ?_;exact⟨j+1,qV1 D5 (by repeat(first|exact qJ8 _ _|exact qV0 _ _|refine qJ9 ?_ (by first|rfl|exact congrArg (fun x=>some (rf 2 [BFunc.cells x])) (Sg hq).symm|exact congrArg (fun es=>some (rt 5 es)) (Ct (f:=OPass.cells) (x:=G (Nz G (ks.take j) f) q) (Gh G ks f) (Rc hq))) rfl (by first|rfl|exact Ma|exact Pj rfl))),⟨hjl,by rw[Sg hq];exact hqs.1⟩,by omega⟩
  refine Bg ?_;have hge2:ks.length<=j:=by have h:=hb5;simp at h;omega
  refine wk 1 ?_;refine qJ0 (.freezeCell 4 (0+((k:Nat):Int).toNat) 0 6 rfl (Nx (by simp:(b.funcs.map (EA G ks)).length=b.funcs.length) hkl) rfl rfl (AL (Gh G ks f) hJ.1) Al) ?_;have hrow:(((((b.funcs.map (EA G ks)).take (k)).map (fun x=>[CQ x]))++List.replicate (b.funcs.length-(k)) [AV.nil]).set (0+((k:Nat):Int).toNat) [AV.ref 6 ks.length 0 ks.length]).set (0+((k:Nat):Int).toNat) ([AV.ref 6 ks.length 0 ks.length].set 0 (.lst false ((((((EA G ks f).take j).map OPass.cells)++List.replicate (ks.length-j) [AV.int .i64 0,AV.nil,AV.nil,AV.int .i64 0,AV.nil]).drop 0).take ks.length)))=((((b.funcs.map (EA G ks)).take (k+1)).map (fun x=>[CQ x]))++List.replicate (b.funcs.length-(k+1)) [AV.nil]):=by
   rw[ZS,Dg (Gh G ks f) hge2];exact Ct (f:=fun x=>[CQ x]) (x:=EA G ks f) (by simp:(b.funcs.map (EA G ks)).length=b.funcs.length) (by rw[q54,hf];rfl)
  rw[hrow,q20 hge2];refine wk 5 ?_;refine aq 86 (Ae Ah rfl rfl rfl rfl rfl rfl rfl (AL (by simp:(b.funcs.map (Nz G ks)).length=b.funcs.length) (qX0 hkl)) rfl (q46 _) Ab) ?_;refine qK6 rfl rfl (AY Ah rfl rfl rfl rfl rfl rfl (AL (by simp:(b.funcs.map (Nz G ks)).length=b.funcs.length) (qX0 hkl)) (CH (by simp:(b.funcs.map (Nz G ks)).length=b.funcs.length) hkl) rfl Al rfl C1) ?_;refine wk 2 ?_;refine aq 87 (AS rfl rfl hkl jq) ?_;refine wk 2 ?_;exact⟨k+1,qV1 D5 (by repeat(first|exact qJ8 _ _|exact qV0 _ _|refine qJ9 ?_ (by first|rfl|exact congrArg (fun es=>some (rt 2 es)) (Ct (f:=BFunc.cells) (x:=Nz G ks f) (by simp:(b.funcs.map (Nz G ks)).length=b.funcs.length) (by rw[q54,hf];rfl))|exact congrArg (fun es=>some (rf 1 es)) hrow) rfl (by first|rfl|exact Ma|exact Pj rfl))),hkl,by omega⟩
 refine Bg ?_;have hge:b.funcs.length<=k:=by have h:=hb4;simp at h;omega
 refine wk 2 ?_;refine qJ0 (.freezeCell 3 0 1 2 rfl rfl rfl rfl (AL (by simp:(b.funcs.map (Nz G ks)).length=b.funcs.length) hk) Al) ?_;rw[Dg (by simp:(b.funcs.map (Nz G ks)).length=b.funcs.length) hge];have hr4:((((b.funcs.map (EA G ks)).take (k)).map (fun x=>[CQ x]))++List.replicate (b.funcs.length-(k)) [AV.nil])=(b.funcs.map (EA G ks)).map (fun x=>[CQ x]):=by have h:=Dg (f:=fun x=>[CQ x]) (z:=[AV.nil]) (by simp:(b.funcs.map (EA G ks)).length=b.funcs.length) hge;rwa[q95,q20 (by have:=AL (f:=fun x=>[CQ x]) (z:=[AV.nil]) (by simp:(b.funcs.map (EA G ks)).length=b.funcs.length) hk;omega)]at h
 rw[hr4];refine qJ0 (.plain 4 rfl (V1 _)) ?_;refine qJ0 (.freezeA 12 4 rfl rfl Aq) ?_;refine wk 8 ?_;refine⟨[_,_,_],⟨⟨_,_,_,_,rfl,rfl,.ptr _ _ _ _ _ _ _ _ rfl rfl rfl,rfl⟩,rfl,rfl,trivial⟩,?_,rfl⟩;rfl
set_option maxRecDepth 100000
variable {n w : Int} {f : BFunc}
theorem PS35.passes(h:PS35 n w f):WC f (Cj f):=by
 obtain⟨h1,h2,h3,h4⟩:=CR h.one;have hl:=h.len;obtain⟨R,hR⟩:∃R:Nat,f.regs=(R:Int):=⟨f.regs.toNat,by omega⟩
 have hR':f.regs.toNat=R:=by omega
 have hs:=Rh h.one;have hr:=h.r;refine⟨gI f h.mild,Wm f ⟨h1,h2,by omega,fun x hx=>by have:=hl.2 x hx;omega,fun x hx t ht=>?_,fun x hx e=>?_⟩,ib f hs (q43.2 h3) Ab Ab (fun x hx=>by have:=hl.2 x hx;omega),eY f h.tame,rfl,rfl,rfl,rfl⟩
 . rw[hR'];have:=(h4 x hx).2 t ht;rw[hR]at this;exact HK this
 . have:=hs.fin x hx e;omega
theorem lU(b:Blocks)(hb:All35 b)(ks:List Int)(hks:ks.length<=20)(hv:∀k∈ks,BL k=true):Pu Tryz.prog 15 [.agg b.cells,AI ks] (.tup [.agg (LD b ks).cells,IL (b.funcs.map (EA Cj ks)),.int .i64 0]):=
 lV b ks Cj (fun f=>∃n w,PS35 n w f) hb.lim hks hv (fun f hf=>by obtain⟨i,hi⟩:=q35 hf;exact⟨_,_,hb.e i f hi⟩) (fun f ⟨n,w,hf⟩ k hk=>⟨⟨n,w,hf.step k⟩,lQ f (Cj f) hf.passes k (hv k hk)⟩)
theorem l0(k:Int):Pu Tryz.prog 22 [.int .i64 k] (.bool (BL k)):=by
 refine qK5 (n:=9) Ah Tryz.func22 rfl rfl ?_;refine wk 40 ?_;refine BM 5 (fun hb1=>?_) fun hb1=>?_
 . refine wk 40 ?_;refine⟨[_],⟨rfl,trivial⟩,?_,rfl⟩;refine bc ?_;simp at hb1;simp[BL,hb1]
 . refine wk 40 ?_;refine⟨[_],⟨rfl,trivial⟩,?_,rfl⟩;refine bc ?_;simp at hb1;unfold BL;exact(q89 Ab).symm
theorem Rg(ks:List Int)(hl:ks.length<=1048576):Pu Tryz.prog 16 [AI ks] (.bool (ks.all BL&&decide (ks.length<=20))):=by
 refine qK5 (n:=19) Ah Tryz.func16 rfl rfl ?_;refine wk 40 ?_;refine qJ7 (γ:=Nat) (fun i=>⟨19,Aa (Aa AU 0 (AI ks)) 3 (iN i),hNone⟩) (fun i=>i<=ks.length/\(ks.take i).all BL=true) (fun i=>ks.length-i) 0 (qJ1 B4 (qJ6 _)) ⟨qZ1 _,rfl⟩ ?_
 rintro i ⟨hi,hF⟩
 refine wk 40 ?_;refine asp 7 (fun hb1=>?_) fun hb1=>?_
 .
  have hil:i<ks.length:=by have:=hb1;simp at this;exact this
  obtain⟨k,hk⟩:=Ad hil;refine wk 40 ?_;refine aq 12 (En Ah (Au hk)) ?_;refine wk 1 ?_;refine ax 14 (Cn Tryz.func22 (l0 k)) ?_;refine wk 40 ?_;refine asp 15 (fun hb2=>?_) fun hb2=>?_
  . have hno:BL k=false:=by simpa using hb2
    refine wk 40 ?_;refine⟨[_],⟨rfl,trivial⟩,?_,rfl⟩;refine bc ?_;rw[show ks.all BL=false from by rw[q64];intro e;rw[q67.1 e k (q33 hk)]at hno;cases hno];rfl
  . have hyes:BL k=true:=by simpa using hb2
    refine wk 40 ?_;exact⟨i+1,qJ1 (by repeat(first|exact qJ2 _|refine qJ3 ?_ (by first|rfl|exact congrArg (fun x=>some (AV.int .i64 x)) (KV hil Bq)))) (qJ6 _),⟨hil,by rw[AT hk,q92,hF];simp[hyes]⟩,by omega⟩
 have hie:i=ks.length:=by have:=hb1;simp at this;omega
 refine wk 40 ?_;refine⟨[_],⟨rfl,trivial⟩,?_,rfl⟩;refine bc ?_;rw[hie,q71]at hF;rw[hF,q76]
 simp
 omega
theorem TM(l:List Tm)(d:Int)(x:Tm)(v:Nat):tget (tset l d x) (v:Int)=if d.toNat=v/\v<l.length then x else tget l (v:Int):=by
 grind[tget,tset]
structure Ag(S:Nat->Prop)(row:List Bool)(a b:SS):Prop where
  l:a.regs.length=b.regs.length
  e:a.effs=b.effs
  t:a.time=b.time
  r:∀v,S v->tget a.regs (v:Int)=tget b.regs (v:Int)/\(tget b.regs (v:Int)).inR row
  i:∀x∈b.effs,x.inR row
variable {S S' : Nat -> Prop} {row : List Bool} {a b : SS} {t u : Tac}
theorem Ag.put(h:Ag S row a b)(d:Int){x:Tm}(hx:x.inR row)(hS:∀v,S' v->d=(v:Int)\/S v):Ag S' row (a.put d x) (b.put d x):=by
 refine⟨by simp[SS.put,tset,h.l],h.e,h.t,fun v hv=>?_,h.i⟩;show tget (tset a.regs d x) _=tget (tset b.regs d x) _/\(tget (tset b.regs d x) _).inR row;rw[TM,TM,h.l]
 by_cases hd:d.toNat=v/\v<b.regs.length
 . rw[qK0 hd];simp only[qK0 hd];exact⟨trivial,hx⟩
 . simp only[qZ9 hd];rcases hS v hv with e|e
   . subst e;have hl:¬v<b.regs.length:=fun g=>hd ⟨rfl,g⟩
     unfold tget;rw[q55,q26 (by rw[h.l];omega),q26 Ab];exact⟨rfl,trivial⟩
   . exact h.r v e
theorem Ag.eff(h:Ag S row a b){x:SE}(hx:x.inR row)(hS:∀v,S' v->S v):Ag S' row (a.eff x) (b.eff x):=
 ⟨h.l,congrArg (· ++[x]) h.e,h.t,fun v hv=>h.r v (hS v hv),fun y hy=>by
  rcases q78.1 (show y∈b.effs++[x]from hy)with hy|hy
  . exact h.i y hy
  . rw[q47.1 hy];exact hx⟩
theorem Ag.tick(h:Ag S row a b):Ag S row a.tick b.tick:=⟨h.l,h.e,congrArg (· +1) h.t,h.r,h.i⟩
variable {k : Int} {x : Tm}
theorem fb{y:Tm}(hx:x.inR row)(hy:y.inR row):(Fs k x y).inR row:=by
 have hop:(Tm.op k x y).inR row:=⟨hx,hy⟩
 cases x with
 |cst p=>
  cases y with
  |cst q=>
   simp only[Fs]
   cases trisky k (.cst q)with
   |true=>exact hop
   |false=>exact trivial
  |_=>exact hop
 |_=>exact hop
structure Like(t u:Tac):Prop where
  op:u.op=t.op
  d:u.d=t.d
  k:u.k=t.k
  base:u.base=t.base
  size:u.size=t.size
  n:u.n=t.n
theorem Like.rfl(t:Tac):Like t t:=⟨_root_.rfl,_root_.rfl,_root_.rfl,_root_.rfl,_root_.rfl,_root_.rfl⟩
theorem Ag.step(h:Ag S row a b)(hl:Like t u)(ha:(use1 t.op||use2 t.op)=true->tget a.regs t.a=tget b.regs u.a/\(tget b.regs u.a).inR row)(hb:use2 t.op=true->tget a.regs t.b=tget b.regs u.b/\(tget b.regs u.b).inR row)
 (hS:∀v,S' v->t.sets=(v:Int)\/S v):Ag S' row (a.step t) (b.step u):=by
 have hs:setsOp t.op=true->∀v,S' v->t.d=(v:Int)\/S v:=fun e v hv=>by
  grind[Tac.sets,use1,use2,tget,setsOp]
 have hn:setsOp t.op=false->∀v,S' v->S v:=fun e v hv=>by
  grind[Tac.sets,use1,use2,tget,setsOp]
 have key:∀(z:SE),z.inR row->setsOp t.op=true->Ag S' row (a.get t z) (b.get u z):=fun z hz e=>by
  unfold SS.get;rw[hl.d,h.e];exact Ag.put (S:=S) (h.eff hz fun _ g=>g) t.d (x:=.unk _) trivial (hs e)
 unfold SS.step;rw[hl.op]
 cases h1:t.op==1 with
 |true=>simp only[qZ7];rw[hl.d,hl.n];exact h.put _ trivial (hs (by simp at h1;rw[h1];decide))
 |false=>
 cases h2:t.op==2 with
 |true=>
  simp at h2;have:=ha (by rw[h2];decide);simp only[qZ7,qZ3];rw[hl.d,this.1];exact h.put _ this.2 (hs (by rw[h2];decide))
 |false=>
 cases h3:t.op==3 with
 |true=>
  simp at h3;have h4:=ha (by rw[h3];decide);have h5:=hb (by rw[h3];decide);simp only[qZ7,qZ3];unfold SS.bin SS.div;rw[hl.d,hl.k,h4.1,h5.1];have hx:=fb (k:=t.k) h4.2 h5.2
  cases trisky t.k (tget b.regs u.b)with
  |true=>exact Ag.put (S:=S) (Ag.eff h (x:=⟨true,3,t.k,0,0,some (tget b.regs u.a),some (tget b.regs u.b)⟩) ⟨h4.2,h5.2⟩ fun _ g=>g) _ hx (hs (by rw[h3];decide))
  |false=>exact h.put _ hx (hs (by rw[h3];decide))
 |false=>
 cases h4:t.op==4 with
 |true=>simp only[qZ7,qZ3];rw[hl.d,hl.base,h.t];exact h.put _ trivial (hs (by simp at h4;rw[h4];decide))
 |false=>
 cases h5:t.op==5 with
 |true=>
  simp at h5;have:=ha (by rw[h5];decide);simp only[qZ7,qZ3];rw[hl.base,this.1];refine Ag.tick (Ag.eff h ?_ (hn (by rw[h5];decide)));exact⟨this.2,trivial⟩
 |false=>
 cases h6:t.op==6 with
 |true=>
  simp at h6;have:=ha (by rw[h6];decide);simp only[qZ7,qZ3];rw[hl.base,hl.size,this.1];exact key _ ⟨this.2,trivial⟩ (by rw[h6];decide)
 |false=>
 cases h7:t.op==7 with
 |true=>
  simp at h7;have g1:=ha (by rw[h7];decide);have g2:=hb (by rw[h7];decide);simp only[qZ7,qZ3];rw[hl.base,hl.size,g1.1,g2.1];refine Ag.tick (Ag.eff h ?_ (hn (by rw[h7];decide)));exact⟨g1.2,g2.2⟩
 |false=>
 cases h8:t.op==8 with
 |true=>simp at h8;exact key _ ⟨trivial,trivial⟩ (by rw[h8];decide)
 |false=>
 have hno:setsOp t.op=false:=by simp at h1 h2 h3 h4 h5 h6 h7 h8;simp[setsOp,h1,h2,h3,h4,h6,h8]
 cases h9:t.op==9 with
 |true=>
  simp at h9;have:=ha (by rw[h9];decide);simp only[qZ7,qZ3];rw[this.1];exact h.eff ⟨this.2,trivial⟩ (hn hno)
 |false=>simp only[qZ7,qZ3];rw[hl.base];refine Ag.tick (Ag.eff h ?_ (hn hno));exact⟨trivial,trivial⟩
variable {l : List Tm} {d : Int}
theorem Fd{z:Int}(hd:0<=d)(hz:0<=z)(h:z≠d):tget (tset l d x) z=tget l z:=by
 grind[tget,tset]
theorem ML(h:0<=d/\d<l.length):tget (tset l d x) d=x:=by
 grind[tget,tset]
theorem KZ(a:SS)(t:Tac):(a.step t).regs=a.regs/\setsOp t.op=false\/setsOp t.op=true/\∃x,(a.step t).regs=tset a.regs t.d x/\(t.op=2->x=tget a.regs t.a):=by
 have hdv:(a.div t).regs=a.regs:=by unfold SS.div;cases trisky t.k (tget a.regs t.b)<;>rfl
 unfold SS.step
 cases h1:t.op==1 with
 |true=>simp at h1;exact .inr ⟨by rw[h1];decide,_,rfl,fun e=>by rw[h1]at e;cases e⟩
 |false=>
 cases h2:t.op==2 with
 |true=>simp at h2;exact .inr ⟨by rw[h2];decide,_,rfl,fun e=>rfl⟩
 |false=>
 have n2:∀{x:Tm},t.op=2->x=tget a.regs t.a:=fun e=>by rw[e]at h2;cases h2
 cases h3:t.op==3 with
 |true=>simp at h3;exact .inr ⟨by rw[h3];decide,Fs t.k (tget a.regs t.a) (tget a.regs t.b),by show tset (a.div t).regs _ _=_;rw[hdv],n2⟩
 |false=>
 cases h4:t.op==4 with
 |true=>simp at h4;exact .inr ⟨by rw[h4];decide,_,rfl,n2⟩
 |false=>
 cases h5:t.op==5 with
 |true=>simp at h5;exact .inl ⟨rfl,by rw[h5];decide⟩
 |false=>
 cases h6:t.op==6 with
 |true=>simp at h6;exact .inr ⟨by rw[h6];decide,_,rfl,n2⟩
 |false=>
 cases h7:t.op==7 with
 |true=>simp at h7;exact .inl ⟨rfl,by rw[h7];decide⟩
 |false=>
 cases h8:t.op==8 with
 |true=>simp at h8;exact .inr ⟨by rw[h8];decide,_,rfl,n2⟩
 |false=>
 have hno:setsOp t.op=false:=by simp at h1 h2 h3 h4 h5 h6 h7 h8;simp[setsOp,h1,h2,h3,h4,h6,h8]
 cases t.op==9 with
 |true=>exact .inl ⟨rfl,hno⟩
 |false=>exact .inl ⟨rfl,hno⟩
def V9(K:Di)(l:List Tm):Prop:=∀z v,pget z K=some v->0<=z/\tget l z=.cst v
theorem eQ{x y:Int}(h:((Cp k x y).2==0)=true):trisky k (.cst y)=false:=by
 unfold trisky
 cases e:k==7||k==8 with
 |false=>rfl
 |true=>
  have hk:Cp k x y=GT k x y:=by
   simp at e;unfold Cp;rcases e with e|e<;>subst e<;>rfl
  rw[hk]at h;unfold GT at h
  cases ey:y==0 with
  |false=>simpa[Tm.isZero]using ey
  |true=>rw[ey]at h;simp at h
variable {K : Di}
theorem ZJ(hk:V9 K a.regs)(t:Tac):a.step (Dm K t)=a.step t:=by
 cases hv:(Dw t K).2 with
 |false=>simp only[Dm,hv,qZ3]
 |true=>
  have e:Dm K t=KD t.d (Dw t K).1:=by simp only[Dm,hv,qZ7]
  rw[e,show a.step (KD t.d (Dw t K).1)=a.put t.d (.cst (Dw t K).1)from rfl];unfold Dw at hv|-
  cases e2:t.op==2 with
  |true=>
   rw[e2]at hv;simp only[qZ7]at hv|-;obtain⟨v,hv⟩:=Option.isSome_iff_exists.1 hv;have h1:(t.op==1)=false:=by simp at e2;simp[e2]
   unfold SS.step;rw[h1,e2];simp only[qZ7,qZ3];rw[(hk _ _ hv).2,hv];rfl
  |false=>
   cases e3:t.op==3 with
   |false=>rw[e2,e3]at hv;simp at hv
   |true=>
    rw[e2,e3]at hv;simp only[qZ7,qZ3]at hv|-
    cases ea:pget t.a K with
    |none=>rw[ea]at hv;simp at hv
    |some va=>
     cases eb:pget t.b K with
     |none=>rw[eb]at hv;simp at hv
     |some vb=>
      rw[ea,eb]at hv;simp only[Option.isSome_some,qQ4,qZ7,q72]at hv|-;have h1:(t.op==1)=false:=by simp at e3;simp[e3]
      unfold SS.step;rw[h1,e2,e3];simp only[qZ7,qZ3];unfold SS.bin SS.div;have hr:=eQ hv;rw[(hk _ _ ea).2,(hk _ _ eb).2,hr];simp only[qZ3,Fs,hr]
theorem X9(hk:V9 K a.regs)(hu:GC K)(hd:setsOp u.op=true->0<=u.d/\u.d<a.regs.length):V9 (Hv K u) (a.step u).regs:=by
 unfold Hv
 cases hs:decide (u.sets<0)with
 |true=>
  rcases KZ a u with⟨h,_⟩|⟨h,_⟩
  . rw[h];exact hk
  . have:=hd h;unfold Tac.sets at hs;rw[h]at hs;simp at hs;omega
 |false=>
  have hS:setsOp u.op=true:=by
   unfold Tac.sets at hs
   cases e:setsOp u.op with
   |true=>rfl
   |false=>rw[e]at hs;simp at hs
  have hsd:u.sets=u.d:=by unfold Tac.sets;rw[hS];rfl
  obtain⟨d1,d2⟩:=hd hS;rw[hsd]
  cases h1:u.op==1 with
  |true=>
   have hreg:(a.step u).regs=tset a.regs u.d (.cst u.n):=by unfold SS.step;rw[h1];rfl
   rw[hreg];intro z v hz;simp only[qZ7,qZ3]at hz;rw[Og]at hz
   cases e:z==u.d with
   |true=>
    rw[e]at hz;have hzd:z=u.d:=by simpa using e
    subst hzd;simp only[qZ7,q53]at hz;subst hz;exact⟨d1,ML ⟨d1,d2⟩⟩
   |false=>
    rw[e]at hz;obtain⟨g1,g2⟩:=hk z v hz;exact⟨g1,by rw[Fd d1 g1 Mz];exact g2⟩
  |false=>
   intro z v hz;simp only[qZ3]at hz;rw[Oh _ _ hu]at hz
   cases e:z==u.d with
   |true=>rw[e]at hz;simp at hz
   |false=>
    rw[e]at hz;obtain⟨g1,g2⟩:=hk z v hz;refine⟨g1,?_⟩;rcases KZ a u with⟨h,_⟩|⟨_,w,h,_⟩
    . rw[h];exact g2
    . rw[h,Fd d1 g1 Mz];exact g2
theorem Xl:∀(l:List Tac) (K:Di) (a:SS),(∀t∈l,setsOp t.op=true->0<=t.d/\t.d<a.regs.length)->V9 K a.regs->GC K->(D4 K l).foldl SS.step a=l.foldl SS.step a
 | [],_,_,_,_,_=>rfl
 |t::r,K,a,hl,hk,hu=>by
  have h1:=ZJ hk t;have hkn:=X9 hk hu (u:=Dm K t) (fun h=>by rw[dG];exact hl t Aq (JO h));rw[h1]at hkn;simp only[D4,q85,h1];exact Xl r (Hv K (Dm K t)) _ (fun u hu' hs=>by rw[SS.step_len];exact hl u (by simp[hu']) hs) hkn (Pb hu _)
def rd(R:Nat)(fr:List Int)(l:List Tm):Prop:=l.length=R/\∀v:Int,0<=v->v<R->tget l v=tget l (Ai fr v)
variable {R : Nat}
theorem v8(h:l.length=R):rd R (LV R) l:=⟨h,fun v h0 h1=>by
 obtain⟨u,rfl⟩:∃u:Nat,v=u:=⟨v.toNat,by omega⟩
 rw[JK Ab]⟩
variable {fr : List Int}
theorem kn(h:rd R fr a.regs)(ht:bE R t):a.step (subT fr t)=a.step t:=by
 unfold subT
 cases e1:use1 t.op with
 |true=>
  have ha:=ht.u1 e1;have e3:(t.op==3)=false:=by
   cases e:t.op==3 with
   |false=>rfl
   |true=>simp at e;rw[e]at e1;cases e1
  have e7:(t.op==7)=false:=by
   cases e:t.op==7 with
   |false=>rfl
   |true=>simp at e;rw[e]at e1;cases e1
  simp only[qZ7];unfold SS.step;dsimp only;rw[<-h.2 t.a ha.1 ha.2,e3,e7];rfl
 |false=>
  cases e2:use2 t.op with
  |true=>
   obtain⟨ha,hb⟩:=ht.u2 e2;simp only[qZ7,qZ3];unfold SS.step SS.bin SS.div SS.get;dsimp only;rw[<-h.2 t.a ha.1 ha.2,<-h.2 t.b hb.1 hb.2]
  |false=>rfl
theorem m7(h:rd R fr a.regs)(hr:NL R fr)(ht:bE R t):rd R (DZ fr t) (a.step t).regs:=by
 rcases KZ a t with⟨hv,hs⟩|⟨hs,x,hv,h2⟩
 . grind[Tac.sets,DZ,rd]
 . have hd:=ht.d hs;have hsd:t.sets=t.d:=by unfold Tac.sets;rw[hs];rfl
   have hlt:t.d<a.regs.length:=by rw[h.1];exact hd.2
   have main:rd R (CX t.sets fr) (a.step t).regs:=by
    rw[hv,hsd];refine⟨by simp only[tset,q83];exact h.1,fun u u0 u1=>?_⟩;obtain⟨w,rfl⟩:∃w:Nat,u=w:=⟨u.toNat,by omega⟩
    rw[DV (by rw[hr.len];omega)]
    cases e:((w:Int)==t.d||Ai fr w==t.d)with
    |true=>rfl
    |false=>
     simp only[q38,q40]at e;have hw:=hr.ran w u0 u1;simp only[qZ3];rw[Fd hd.1 u0 e.1,Fd hd.1 hw.1 e.2];exact h.2 w u0 u1
   unfold DZ;rw[show decide (t.sets>=0)=true by rw[hsd];exact q96 hd.1];simp only[qZ7]
   cases ec:(t.op==2&&t.a !=t.sets)with
   |false=>exact main
   |true=>
    simp only[q66,qZ4,bne_iff_ne]at ec;have ha:=ht.u1 (by rw[ec.1];rfl);simp only[qZ7];obtain⟨d,hdn⟩:∃d:Nat,t.d=d:=⟨t.d.toNat,by omega⟩
    have hsd':t.sets=(d:Int):=hsd.trans hdn;rw[hsd']at main ec|-;refine⟨main.1,fun u u0 u1=>?_⟩;obtain⟨w,rfl⟩:∃w:Nat,u=w:=⟨u.toNat,by omega⟩
    have hdl:d<(CX (d:Int) fr).length:=by rw[DU,hr.len];omega
    rw[FQ hdl]
    by_cases e:w=d
    . rw[qK0 e,e,hv,h2 ec.1,<-hdn,ML ⟨hd.1,hlt⟩,Fd hd.1 ha.1 (by rw[hdn];exact ec.2)]
    . rw[qZ9 e];exact main.2 w u0 u1
theorem cL{n w:Int}{R:Nat}:∀(l:List Tac) (fr:List Int) (a:SS),NL R fr->rd R fr a.regs->(∀t∈l,t.fits n R w=true)->
 (D1 fr l).1.foldl SS.step a=l.foldl SS.step a/\rd R (D1 fr l).2 (l.foldl SS.step a).regs
 | [],_,_,_,h,_=>⟨rfl,h⟩
 |t::r,fr,a,hr,h,hl=>by
  have ht:=hl t Aq;have hsub:=Vw hr ht;have h1:=kn h (HK ht);have hn:=m7 h hr (HK hsub);rw[h1]at hn;show(subT fr t::(D1 (DZ fr (subT fr t)) r).1).foldl SS.step a=_/\rd R (D1 (DZ fr (subT fr t)) r).2 _;rw[q85,q85,h1];exact cL r _ _ (Oa hr hsub) hn fun u hu=>hl u IR
inductive SL(z:Nat->Bool):List Tac->List Tac->Prop
  |nil:SL z [] []
  |keep {t:Tac} {l m:List Tac}:SL z l m->SL z (t::l) (t::m)
  |drop {t:Tac} {l m:List Tac}:SL z l m->t.pure=true->(∀v:Nat,t.sets=(v:Int)->need v m (z v)=false)->SL z (t::l) m
theorem TL(z:Nat->Bool):∀l,SL z l l
 | []=>.nil
 |t::l=>.keep (TL z l)
variable {z : Nat -> Bool}
theorem eZ{v:Nat}{l m:List Tac}(h:SL z l m):need v m (z v)=true->need v l (z v)=true:=by
 induction h with
 |nil=>exact id
 |keep _ ih=>grind[need]
 |drop _ _ hd ih=>
  intro e;have:=hd v
  grind[need]
theorem QC{z:Nat->Bool}{t:Tac}{l2:List Tac}(hp:t.pure=true)(hd:∀v:Nat,t.sets=(v:Int)->need v l2 (z v)=false):∀{l1 m:List Tac},SL z (l1++l2) m->SL z (l1++t::l2) m
 | [],m,h=>.drop h hp fun v e=>by
  grind[need,eZ]
 |a::l1,m,h=>by
  rw[q73]at h|-
  cases h with
  |keep h=>exact .keep (QC hp hd h)
  |drop h p d=>exact .drop (QC hp hd h) p d
structure Abu(f g:BFunc)(x y:Block):Prop where
  fin:y.fin=x.fin
  v:y.v=x.v
  to:y.to=x.to
  els:y.els=x.els
  thin:SL (ET g y) x.ins y.ins
  down:∀w,ET g y w=true->ET f x w=true
variable {g : BFunc}
theorem U9(h:Cuts f g):∀{c:Nat} {x y:Block},f.blocks[c]?=some x->g.blocks[c]?=some y->Abu f g x y:=by
 induction h with
 |refl f=>intro c x y hx hy;rw[hx]at hy;cases hy;exact⟨rfl,rfl,rfl,rfl,TL _ _,fun _ e=>e⟩
 | @step f f1 g hc _ ih=>
  intro c x y hx hy;obtain⟨c0,x0,l1,t,l2,v,h⟩:=hc
  by_cases e:c0=c
  . subst e;have e0:x0=x:=q86 (h.hx.symm.trans hx);subst e0;have i:=ih (x:=x0.mid (l1++l2)) (by rw[h.hg];exact Fi h.hx) hy;have hdn:∀w,ET g y w=true->ET f x0 w=true:=fun w g=>Jj h (RB _ _) (i.down w g)
    refine⟨i.fin,i.v,i.to,i.els,?_,hdn⟩;rw[h.hi];refine QC h.pure (fun u hu=>?_) i.thin;have huv:v=u:=by have:=h.hv.symm.trans hu;omega
    subst huv;exact Gt (BW (hdn v)) h.dead
  . have i:=ih (x:=x) (by rw[h.hg,Iv e];exact hx) hy;exact⟨i.fin,i.v,i.to,i.els,i.thin,fun w g=>Jj h ⟨rfl,rfl,rfl⟩ (i.down w g)⟩
theorem TR(h:t.pure=true)(a:SS):(a.step t).effs=a.effs/\(a.step t).time=a.time:=by
 unfold Tac.pure at h;unfold SS.step
 cases h1:t.op==1 with
 |true=>exact⟨rfl,rfl⟩
 |false=>
 cases h2:t.op==2 with
 |true=>exact⟨rfl,rfl⟩
 |false=>
 cases h3:t.op==3 with
 |true=>
  have h4:(t.op==4)=false:=by simp at h3;simp[h3]
  rw[h1,h2,h3,h4]at h;simp only[qQ6,qQ5,q66,q61]at h;simp only[qZ7,qZ3];unfold SS.bin SS.div trisky;rw[h.1,h.2];exact⟨rfl,rfl⟩
 |false=>
 cases h4:t.op==4 with
 |true=>exact⟨rfl,rfl⟩
 |false=>rw[h1,h2,h3,h4]at h;cases h
theorem Ag.drop(h:Ag S row a b){t:Tac}(hp:t.pure=true)(hd:setsOp t.op=true->0<=t.d)(hS:∀v:Nat,S' v->t.sets≠(v:Int)/\S v):Ag S' row (a.step t) b:=by
 have hr:∀v:Nat,S' v->tget (a.step t).regs (v:Int)=tget a.regs (v:Int):=fun v hv=>by
  grind[KZ,Tac.sets,Fd,setsOp,tget]
 exact⟨by rw[SS.step_len];exact h.l,(TR hp a).1.trans h.e,(TR hp a).2.trans h.t,fun v hv=>by rw[hr v hv];exact h.r v (hS v hv).2,h.i⟩
theorem kz{R:Int}{l m:List Tac}(h:SL z l m):∀{a b:SS},(∀t∈l,t.inR R)->Ag (fun v=>need v m (z v)=true) row a b->Ag (fun v=>z v=true) row (l.foldl SS.step a) (m.foldl SS.step b):=by
 induction h with
 |nil=>exact fun _ h=>h
 | @keep t l m _ ih=>
  intro a b hl h;have ht:=hl t Aq;have key:∀u∈t.uses,tget a.regs u=tget b.regs u/\(tget b.regs u).inR row:=fun u hu=>by
   have hu0:=(ht.2 u hu).1;obtain⟨v,rfl⟩:∃v:Nat,u=v:=⟨u.toNat,by omega⟩
   exact h.r v (by simp[need,hu])
  refine ih (fun u hu=>hl u IR) (h.step (.rfl t) (fun e=>key _ ?_) (fun e=>key _ ?_) fun v hv=>?_)
  . unfold Tac.uses
    cases e1:use1 t.op with
    |true=>simp
    |false=>rw[e1,qQ6]at e;simp[e]
  . have:=O9 t.op;rw[e,qQ4]at this;unfold Tac.uses;simp[this,e]
  . by_cases e:t.sets=(v:Int)
    . exact .inl e
    . exact .inr (by simp[need,hv,e])
 | @drop t l m _ hp hd ih=>
  intro a b hl h;refine ih (fun u hu=>hl u IR) (h.drop hp (fun e=>((hl t Aq).1 e).1) fun v hv=>⟨fun e=>?_,hv⟩);rw[hd v e]at hv;cases hv
theorem gN{r:Int}(hw:w<=1048576)(h10:(t.op !=10)=true)(h:t.fits n r w=true):t.fits 0 r 1048576=true:=by
 grind[Tac.fits,Tac.rest,GP,A2,EP]
theorem gM{r:Int}(h:t.fits n r w=true):t.callOk=true:=by
 cases e:t.op !=10 with
 |true=>exact OQ e
 |false=>
  have e10:t.op=10:=by simpa using e
  simp only[Tac.fits,q66]at h;have hw:=(Tac.same_iff _ _).1 h.2.2.2.2.2;have hb:0<=t.base:=by
   have hr:=h.2.2.2.2.1;unfold Tac.rest at hr;rw[show(t.op==3)=false by simp[e10],show GP t.op=false by rw[e10];rfl,show EP t.op=false by rw[e10];rfl,show(t.op==10)=true by simp[e10]]at hr;simp only[qZ7,qZ3,A2,q66,q56]at hr;exact hr.1
  refine Sx e (by simpa using hb) ((Tac.same_iff _ _).2 ?_);have:t.want=GY t.base:=by unfold Tac.want;rw[e10];rfl
  exact hw.trans this
theorem GI(h:f.one n w=true)(hw:w<=1048576):f.stands=true:=by
 obtain⟨h1,h2,h3,h4⟩:=CR h;unfold BFunc.stands;rw[q66];refine⟨q67.2 fun x hx=>q67.2 fun t ht=>gM ((h4 x hx).2 t ht),?_⟩;refine TZ (b:=⟨1048576,[f.bare]⟩) (by show(0:Int)<=1048576;decide) (by show(1048576:Int)<=1048576;decide) Aq fun i g hg=>?_
 have hi:i=0:=by have:=(q05.1 hg).1;simp at this;omega
 subst hi;have:f.bare=g:=by simpa using hg
 subst this;unfold BFunc.one;simp only[q66,q56,q67];refine⟨h1,h2,by simpa[BFunc.bare]using h3,fun y hy=>?_⟩;obtain⟨x,hx,rfl⟩:=qX3.1 (show y∈f.blocks.map Block.bare from hy);unfold Block.ok;rw[q66,q67];refine⟨by rw[show f.bare.blocks.length=f.blocks.length from q76 _];exact(h4 x hx).1,fun t ht=>?_⟩;have:=q90.1 (show t∈Ee x.ins from ht);exact gN hw this.2 ((h4 x hx).2 t this.1)
theorem N1(h1:f.stands=true)(h2:g.stands=true)(hr:f.regs=g.regs)(hl:f.blocks.length=g.blocks.length)(hb:∀(k:Nat) (x y:Block),f.blocks[k]?=some x->g.blocks[k]?=some y->x.fin=y.fin/\x.to=y.to/\x.els=y.els):vshaped f g=true:=by
 refine O7 hr hl h1 h2 (q67.2 ?_)
 rintro⟨x,y⟩ hp
 obtain⟨k,hk⟩:=q27.1 hp;rw[q11]at hk;have:=hb k x y hk.1 hk.2;simp[EW,this]
theorem UU(hsh:vshaped f g=true)(h:∀(k:Nat) (x y:Block),f.blocks[k]?=some x->g.blocks[k]?=some y->Do (Da f.regs.toNat) y.ins=Do (Da f.regs.toNat) x.ins/\(x.fin=2->tget (Do (Da f.regs.toNat) x.ins).regs y.v=tget (Do (Da f.regs.toNat) x.ins).regs x.v)):OX f g (co f):=by
 have hS:=Fe (HQ hsh).so;refine⟨hsh,by simp[co],fun r hr=>?_,fun k x y hx hy=>?_⟩
 . rw[q15 hr];have:=hS.r0
   simp
   omega
 . have hk:=(q05.1 hx).1;have hp:=N0 f.regs.toNat x.ins;obtain⟨e,e2⟩:=h k x y hx hy;rw[Yq,pd (k:=(k:Int)) Ab,e];exact⟨rfl,fun e he=>⟨XR (hp.effs e he).1,XR (hp.effs e he).2⟩,fun hf=>⟨(e2 hf).symm,Ih (IZ hp.regs _)⟩,fun q _ j _=>⟨rfl,Ih (IZ hp.regs _)⟩⟩
theorem PS35.fold_g(h:PS35 n w f)(hw:w<=1048576):OX f f.fold f.all:=by
 obtain⟨h1,h2,h3,h4⟩:=CR h.one;have hget:∀(k:Nat) (x y:Block),f.blocks[k]?=some x->f.fold.blocks[k]?=some y->y=x.fold:=fun k x y hx hy=>by
  have:f.fold.blocks[k]?=some x.fold:=by show(f.blocks.map _)[k]?=_;rw[q54,hx];rfl
  grind
 refine UU (N1 (GI h.one hw) (GI (XP h.one) hw) rfl (q76 _).symm fun k x y hx hy=>?_) fun k x y hx hy=>?_
 . rw[hget k x y hx hy];exact⟨rfl,rfl,rfl⟩
 . rw[hget k x y hx hy];refine⟨Xl x.ins [] ⟨Da f.regs.toNat,[],0⟩ (fun t ht hs=>?_) (fun z v h=>by cases h) (by simp[GC]),fun _=>rfl⟩;have:=(R8 ((h4 x (q33 hx)).2 t ht)).1 hs;show 0<=t.d/\t.d<((Da f.regs.toNat).length:Nat);rw[I0];omega
theorem PS35.forward_g(h:PS35 n w f)(hw:w<=1048576):OX f f.forward f.fcert:=by
 obtain⟨h1,h2,h3,h4⟩:=CR h.one;have hs:=Rh h.one;obtain⟨R,hR⟩:∃R:Nat,f.regs=(R:Int):=⟨f.regs.toNat,by omega⟩
 have hRn:f.regs.toNat=R:=by omega
 have hget:∀(k:Nat) (x y:Block),f.blocks[k]?=some x->f.forward.blocks[k]?=some y->y=x.forward R:=fun k x y hx hy=>by
  have:f.forward.blocks[k]?=some (x.forward R):=by show(f.blocks.map _)[k]?=_;rw[q54,hx,hRn];rfl
  exact q86 (hy.symm.trans this)
 refine UU (N1 (GI h.one hw) (GI (Po h.one) hw) rfl (q76 _).symm fun k x y hx hy=>?_) fun k x y hx hy=>?_
 . rw[hget k x y hx hy];exact⟨rfl,rfl,rfl⟩
 . rw[hget k x y hx hy,hRn];have hxm:=q33 hx;obtain⟨g1,g2⟩:=cL (n:=n) (w:=w) x.ins (LV R) ⟨Da R,[],0⟩ (VQ R) (v8 (I0 R)) (fun t ht=>by have:=(h4 x hxm).2 t ht;rw[hR]at this;exact this);refine⟨g1,fun hf=>?_⟩;have hv:=hs.fin x hxm hf;have e:(x.forward R).v=Ai (D1 (LV R) x.ins).2 x.v:=by unfold Block.forward;rw[hf];rfl
   rw[e];exact(g2.2 x.v hv.1 Ab).symm
theorem PS35.dead_g(h:PS35 n w f)(hw:w<=1048576):OX f (NP f) ⟨Fx (NP f)⟩:=by
 obtain⟨h1,h2,h3,h4⟩:=CR h.one;have hs:=Rh h.one;have hc:=Hb f;obtain⟨hr,hl⟩:=KN hc;have hat:∀k:Int,0<=k->k<f.blocks.length->(Cert.mk (Fx (NP f))).at' k=LU (NP f) k.toNat:=fun k k0 k1=>by
  unfold Cert.at' Fx;rw[q54,q44 Ab];rfl
 have hrow:∀(c v:Nat),(LU (NP f) c)[v]?=if v<f.regs.toNat then some (Za (NP f) v c)else none:=fun c v=>by
  unfold LU;rw[hr];unfold H7;rw[q54]
  by_cases hv:v<f.regs.toNat
  . rw[q44 hv,qK0 hv];rfl
  . rw[q26 (by simpa using hv),qZ9 hv];rfl
 refine⟨N1 (GI h.one hw) (GI (dM h.one) hw) hr.symm hl.symm fun k x y hx hy=>?_,by simp[Fx,hl],fun r hr'=>?_,fun k x y hx hy=>?_⟩
 . have:=U9 hc hx hy;exact⟨this.fin.symm,this.to.symm,this.els.symm⟩
 . obtain⟨c,_,rfl⟩:=qX3.1 (show r∈Fx (NP f)from hr');simp only[LU,H7,q76,List.length_range];omega
 . have hT:=U9 hc hx hy;have hxm:=q33 hx;have hk:=(q05.1 hx).1;rw[Yq,hat (k:Int) Ab Ab,q55];have hA:Ag (fun v=>ET (NP f) y v=true) (LU (NP f) k) (Do (Da f.regs.toNat) x.ins) (Do (Da f.regs.toNat) y.ins):=by
    refine kz hT.thin (R:=f.regs) (hs.low x hxm) ⟨rfl,rfl,rfl,fun v hv=>⟨rfl,?_⟩,fun _ h=>by cases h⟩;show(tget (Da f.regs.toNat) (v:Int)).inR _;unfold tget Da;rw[q55,q54]
    by_cases hvr:v<f.regs.toNat
    . rw[q44 hvr];show(LU (NP f) k)[v]?=some true;rw[hrow,qK0 hvr,aT hy];exact congrArg some hv
    . rw[q26 (by simpa using hvr)];exact trivial
   refine⟨hA.e,hA.i,fun hf=>?_,fun q hq j hj=>?_⟩
   . have hv:=hs.fin x hxm hf;rw[hT.v];obtain⟨u,hu⟩:∃u:Nat,x.v=u:=⟨x.v.toNat,by omega⟩
     rw[hu];exact hA.r u (by unfold ET Ei;rw[hT.fin,hT.v,hf,hu];simp)
   . have hqr:=hs.next x hxm q hq;rw[hat q hqr.1 hqr.2,hrow]at hj;refine hA.r j ?_;unfold ET;rw[q81];refine .inr (outB_iff.2 ⟨q,?_,inB_iff.1 ?_⟩)
     . have:y.nexts=x.nexts:=aE ⟨hT.fin,hT.to,hT.els⟩;rw[this];exact hq
     . by_cases hjr:j<f.regs.toNat
       . rw[qK0 hjr]at hj;exact q86 hj
       . rw[qZ9 hjr]at hj;cases hj
theorem PS35.holds_g(h:PS35 n w f)(hw:w<=1048576)(k:Int)(hk:BL k=true):(Cj f k).holds f=true:=by
 have hfw:f.words:=h.i;have hgw:(Cj f k).f.words:=(h.step k).i;unfold Cj at hgw|-
 cases e1:k==1 with
 |true=>rw[e1]at hgw;show(decide (1<=(1:Int)/\(1:Int)<=4)&&(true&&Dj _ _ _))=true;rw[q66,q66];exact⟨by decide,rfl,(L4 hfw hgw).2 (h.fold_g hw)⟩
 |false=>
 cases e2:k==2 with
 |true=>rw[e1,e2]at hgw;show(decide (1<=(2:Int)/\(2:Int)<=4)&&(true&&Dj _ _ _))=true;rw[q66,q66];exact⟨by decide,rfl,(L4 hfw hgw).2 (h.forward_g hw)⟩
 |false=>
 cases e3:k==3 with
 |true=>rw[e1,e2,e3]at hgw;show(decide (1<=(3:Int)/\(3:Int)<=4)&&(true&&Dj _ _ _))=true;rw[q66,q66];exact⟨by decide,rfl,(L4 hfw hgw).2 (h.dead_g hw)⟩
 |false=>
  have hne:=(CR h.one).2.2.1;show(true&&DE _ _ _)=true;rw[q66];exact⟨rfl,check_iff.2 (L6 (HD h.one) hne)⟩
variable {p : OPass}
theorem qy(hf:f.words)(hg:p.f.words):p.holds f=p.rholds f:=by
 unfold OPass.holds OPass.rholds;rw[jZ hf hg]
theorem VC(x y:Block)(hx:x.ins.length<=1000000000000000):Pu Tryz.prog 67 [.agg x.cells,.agg y.cells] (.bool (decide (x=y))):=by
 refine qK5 (n:=58) Ah Tryz.func67 rfl rfl ?_;refine FL ?_;refine ax 2 (CC 5 0) ?_;refine ax 3 (CC 5 1) ?_;refine wk 11 ?_;refine BM 12 (fun hb1=>?_) fun hb1=>?_
 .
  refine wk 35 ?_;exact Mx
 refine wk 7 ?_;refine BM 19 (fun hb2=>?_) fun hb2=>?_
 .
  refine wk 28 ?_;exact Mx
 refine wk 7 ?_;refine BM 26 (fun hb3=>?_) fun hb3=>?_
 .
  refine wk 21 ?_;exact Mx
 refine wk 7 ?_;refine BM 33 (fun hb4=>?_) fun hb4=>?_
 .
  refine wk 14 ?_;exact Mx
 refine wk 9 ?_;refine asp 41 (fun hb5=>?_) fun hb5=>?_
 .
  refine wk 5 ?_;exact Mx
 refine Bg ?_;have h0:x.fin=y.fin/\x.v=y.v/\x.to=y.to/\x.els=y.els/\x.ins.length=y.ins.length:=by simp_all<;>omega
 refine wk 10 ?_;refine Ap (γ:=Nat) 2 (fun i=>⟨58,(Aa (Aa (Aa (Aa (Aa AU 2 (pZ 0)) 3 (pZ 1)) 43 (CU x.ins)) 44 (iN x.ins.length)) 45 (iN i)),(Af (Af (A0 2) 0 (rf 5 [x.cells])) 1 (rf 5 [y.cells]))⟩) (fun i=>x.ins.take i=y.ins.take i) (fun i=>x.ins.length-i) 0 (qJ1 Cq B5) rfl (fun _=>B9) ?_;intro i ht;refine wk 5 ?_;refine asp 46 (fun hb6=>?_) fun hb6=>?_
 .
  refine Ba ?_;have hil:i<x.ins.length:=by simpa using hb6
  obtain⟨u,hu⟩:=Ad hil;obtain⟨v,hv⟩:=Ad (l:=y.ins) (k:=i) Ab;refine wk 6 ?_;refine aq 48 F6 ?_;refine wk 1 ?_;refine ax 6 (DA Ah 2) ?_;refine wk 9 ?_;refine dq 54 F6 ?_;refine wk 1 ?_;refine dq 56 (E0 Ah true rfl rfl rfl AF rfl rfl rfl rfl (Tac.eqCells u v)) ?_;refine wk 1 ?_;refine asp 56 (fun hb7=>?_) fun hb7=>?_
  .
   exact sZ
  refine Bg ?_;have huv:u=v:=by simpa using hb7
  refine wk 2 ?_;refine aq 57 (AS rfl rfl hil Bq) ?_;exact tM
 exact ta
theorem S6(x y:Block)(hx:x.ins.length<=1000000000000000):Pu Tryz.prog 36 [.agg x.cells,.agg y.cells] (.bool (decide (x=y))):=by
 refine qK5 (n:=59) Ah Tryz.func36 rfl rfl ?_;refine FL ?_;refine ax 2 (CC 5 0) ?_;refine ax 3 (CC 5 1) ?_;refine wk 11 ?_;refine BM 11 (fun hb1=>?_) fun hb1=>?_
 .
  refine wk 35 ?_;exact Mx
 refine wk 7 ?_;refine BM 18 (fun hb2=>?_) fun hb2=>?_
 .
  refine wk 28 ?_;exact Mx
 refine wk 7 ?_;refine BM 25 (fun hb3=>?_) fun hb3=>?_
 .
  refine wk 21 ?_;exact Mx
 refine wk 7 ?_;refine BM 32 (fun hb4=>?_) fun hb4=>?_
 .
  refine wk 14 ?_;exact Mx
 refine wk 9 ?_;refine asp 40 (fun hb5=>?_) fun hb5=>?_
 .
  refine wk 5 ?_;exact Mx
 refine Bg ?_;have h0:x.fin=y.fin/\x.v=y.v/\x.to=y.to/\x.els=y.els/\x.ins.length=y.ins.length:=by simp_all<;>omega
 refine wk 7 ?_;refine Ap (γ:=Nat) 2 (fun i=>⟨59,(Aa (Aa (Aa AU 2 (pZ 0)) 3 (pZ 1)) 5 (iN i)),(Af (Af (A0 2) 0 (rf 5 [x.cells])) 1 (rf 5 [y.cells]))⟩) (fun i=>x.ins.take i=y.ins.take i) (fun i=>x.ins.length-i) 0 (qJ1 Cq B5) rfl (fun _=>B9) ?_;intro i ht;refine wk 9 ?_;refine asp 45 (fun hb6=>?_) fun hb6=>?_
 .
  refine Ba ?_;have hil:i<x.ins.length:=by simpa using hb6
  obtain⟨u,hu⟩:=Ad hil;obtain⟨v,hv⟩:=Ad (l:=y.ins) (k:=i) Ab;refine wk 8 ?_;refine dq 51 F6 ?_;refine wk 4 ?_;refine dq 56 F6 ?_;refine wk 1 ?_;refine dq 58 (E0 Ah true rfl rfl rfl AF rfl rfl rfl rfl (Tac.eqCells u v)) ?_;refine wk 1 ?_;refine asp 58 (fun hb7=>?_) fun hb7=>?_
  .
   exact sZ
  refine Bg ?_;have huv:u=v:=by simpa using hb7
  refine wk 3 ?_;refine aq 47 (AS rfl rfl hil Bq) ?_;exact tM
 exact ta
theorem VI(f g:BFunc)(hf:f.blocks.length<=1000000000000000/\∀x∈f.blocks,x.ins.length<=1000000000000000):Pu Tryz.prog 23 [.agg f.cells,.agg g.cells] (.bool (decide (f=g))):=by
 refine qK5 (n:=39) Ah Tryz.func23 rfl rfl ?_;refine FL ?_;refine ax 2 (CC 2 0) ?_;refine ax 3 (CC 2 1) ?_;refine wk 11 ?_;refine BM 11 (fun hb1=>?_) fun hb1=>?_
 .
  refine wk 14 ?_;exact Mx
 refine wk 9 ?_;refine asp 19 (fun hb2=>?_) fun hb2=>?_
 .
  refine wk 5 ?_;exact Mx
 refine Bg ?_;have h0:f.regs=g.regs/\f.blocks.length=g.blocks.length:=by simp_all<;>omega
 refine wk 7 ?_;refine Ap (γ:=Nat) 2 (fun i=>⟨39,(Aa (Aa (Aa AU 2 (pZ 0)) 3 (pZ 1)) 5 (iN i)),(Af (Af (A0 2) 0 (rf 2 [f.cells])) 1 (rf 2 [g.cells]))⟩) (fun i=>f.blocks.take i=g.blocks.take i) (fun i=>f.blocks.length-i) 0 (qJ1 Cq B5) rfl (fun _=>B9) ?_;intro i ht;refine wk 9 ?_;refine asp 24 (fun hb3=>?_) fun hb3=>?_
 .
  refine Ba ?_;have hil:i<f.blocks.length:=by simpa using hb3
  obtain⟨x,hx⟩:=Ad hil;obtain⟨y,hy⟩:=Ad (l:=g.blocks) (k:=i) Ab;have hil2:=hf.1;refine wk 8 ?_;refine dq 30 (En Ah (Au hx)) ?_;refine wk 4 ?_;refine dq 35 (En Ah (Au hy)) ?_;refine wk 1 ?_;refine dx 37 (Cn Tryz.func36 (S6 x y (hf.2 x (q33 hx)))) ?_;refine dq 38 (Iu rfl rfl) ?_;refine wk 1 ?_;refine asp 38 (fun hb4=>?_) fun hb4=>?_
  .
   refine Ba ?_;have hxy:x≠y:=by simpa using hb4
   refine wk 4 ?_;refine CE ⟨[_],⟨rfl,trivial⟩,?_,rfl⟩;show AV.bool false=_;rw[q89 (by rintro rfl;rw[hx]at hy;cases hy;exact hxy rfl)]
  refine Bg ?_;have hxy:x=y:=by simpa using hb4
  refine wk 3 ?_;refine aq 26 (AS rfl rfl hil Bq) ?_;refine wk 2 ?_;exact⟨i+1,qV1 D5 FM,(by rw[AT hx,AT hy,ht,hxy]),by omega⟩
 refine Bg ?_;have hge:f.blocks.length<=i:=by simpa using hb3
 refine wk 5 ?_;refine CE ⟨[_],⟨rfl,trivial⟩,?_,rfl⟩;show AV.bool true=_;rw[q96 (BFunc.ext' h0.1 (HT ht hge (h0.2▸hge)))]
theorem nX(a b:Blocks)(hl0:a.funcs.length<=1000000000000000)(hl1:∀f∈a.funcs,f.blocks.length<=1000000000000000/\∀x∈f.blocks,x.ins.length<=1000000000000000):Pu Tryz.prog 46 [.agg a.cells,.agg b.cells] (.bool (decide (a=b))):=by
 refine qK5 (n:=69) Ah Tryz.func46 rfl rfl ?_;refine FL ?_;refine ax 2 (CC 2 0) ?_;refine ax 3 (CC 2 1) ?_;refine wk 11 ?_;refine BM 15 (fun hb1=>?_) fun hb1=>?_
 .
  refine wk 14 ?_;exact Mx
 refine wk 9 ?_;refine asp 23 (fun hb2=>?_) fun hb2=>?_
 .
  refine wk 5 ?_;exact Mx
 refine Bg ?_;have h0:a.words=b.words/\a.funcs.length=b.funcs.length:=by simp_all<;>omega
 refine wk 10 ?_;refine Ap (γ:=Nat) 2 (fun i=>⟨69,(Aa (Aa (Aa (Aa (Aa AU 2 (pZ 0)) 3 (pZ 1)) 25 (Fl a.funcs)) 26 (iN a.funcs.length)) 27 (iN i)),(Af (Af (A0 2) 0 (rf 2 [a.cells])) 1 (rf 2 [b.cells]))⟩) (fun i=>a.funcs.take i=b.funcs.take i) (fun i=>a.funcs.length-i) 0 (qJ1 Cq B5) rfl (fun _=>B9) ?_;intro i ht;refine wk 5 ?_;refine asp 28 (fun hb3=>?_) fun hb3=>?_
 .
  refine Ba ?_;have hil:i<a.funcs.length:=by simpa using hb3
  obtain⟨f,hf⟩:=Ad hil;obtain⟨g,hg⟩:=Ad (l:=b.funcs) (k:=i) Ab;obtain⟨hl2,hl3⟩:=hl1 f (q33 hf);refine wk 6 ?_;refine aq 30 (En Ah (Au hf)) ?_;refine wk 1 ?_;refine ax 6 (DA Ah 2) ?_;refine wk 8 ?_;refine aq 35 (En Ah (Au hg)) ?_;refine wk 1 ?_;refine ax 7 (DA Ah 3) ?_;refine wk 11 ?_;refine BM 42 (fun hb4=>?_) fun hb4=>?_
  .
   refine wk 14 ?_;exact sb
  refine wk 9 ?_;refine asp 50 (fun hb5=>?_) fun hb5=>?_
  .
   refine wk 5 ?_;exact sb
  refine Bg ?_;have h1:f.regs=g.regs/\f.blocks.length=g.blocks.length:=by simp_all<;>omega
  refine wk 9 ?_;refine Ap (γ:=Nat) 4 (fun j=>⟨69,(Aa (Aa (Aa (Aa (Aa (Aa (Aa (Aa (Aa (Aa AU 2 (pZ 0)) 3 (pZ 1)) 25 (Fl a.funcs)) 26 (iN a.funcs.length)) 27 (iN i)) 6 (pZ 2)) 7 (pZ 3)) 52 (BK f.blocks)) 53 (iN f.blocks.length)) 54 (iN j)),(Af (Af (Af (Af (A0 4) 0 (rf 2 [a.cells])) 1 (rf 2 [b.cells])) 2 (rf 2 [f.cells])) 3 (rf 2 [g.cells]))⟩) (fun j=>f.blocks.take j=g.blocks.take j) (fun j=>f.blocks.length-j) 0 (qJ1 Cq B5) rfl (fun _=>Ac (Ac (B9) rfl) rfl) ?_;intro j hs;refine wk 5 ?_;refine asp 55 (fun hb6=>?_) fun hb6=>?_
  .
   refine Ba ?_;have hjl:j<f.blocks.length:=by simpa using hb6
   obtain⟨x,hx⟩:=Ad hjl;obtain⟨y,hy⟩:=Ad (l:=g.blocks) (k:=j) Ab;refine wk 6 ?_;refine aq 57 (En Ah (Au hx)) ?_;refine wk 1 ?_;refine ax 9 (DA Ah 4) ?_;refine wk 9 ?_;refine dq 63 (En Ah (Au hy)) ?_;refine wk 1 ?_;refine dx 65 (Cn Tryz.func67 (VC x y (by have:=hl3 x (q33 hx);omega))) ?_;refine dq 66 (Iu rfl rfl) ?_;refine wk 1 ?_;refine asp 66 (fun hb7=>?_) fun hb7=>?_
   .
    refine Ba ?_;have hxy:x≠y:=by simpa using hb7
    refine wk 4 ?_;refine CE ⟨[_],⟨rfl,trivial⟩,?_,rfl⟩;show AV.bool false=_;rw[q89 (by rintro rfl;rw[hf]at hg;cases hg;rw[hx]at hy;cases hy;exact hxy rfl)]
   refine Bg ?_;have hxy:x=y:=by simpa using hb7
   refine wk 2 ?_;refine aq 67 (AS rfl rfl hjl Bq) ?_;refine wk 2 ?_;exact⟨j+1,qV1 D5 FM,(by rw[AT hx,AT hy,hs,hxy]),by omega⟩
  refine Bg ?_;have hge2:f.blocks.length<=j:=by simpa using hb6
  have hfg:f=g:=BFunc.ext' h1.1 (HT hs hge2 (h1.2▸hge2));refine wk 2 ?_;refine aq 68 (AS rfl rfl hil Bq) ?_;refine wk 2 ?_;exact⟨i+1,qV1 D5 FM,(by rw[AT hf,AT hg,ht,hfg]),by omega⟩
 refine Bg ?_;have hge:a.funcs.length<=i:=by simpa using hb3
 refine wk 5 ?_;refine CE ⟨[_],⟨rfl,trivial⟩,?_,rfl⟩;show AV.bool true=_;rw[q96 (Blocks.ext' h0.1 (HT ht hge (h0.2▸hge)))]
theorem mC(f:BFunc)(hn:f.blocks.length<=100000)(hi:∀x∈f.blocks,x.ins.length<=100000):Pu Tryz.prog 69 [.agg f.cells] (.bool f.stands):=by
 refine qK5 (n:=97) Ah Tryz.func69 rfl rfl ?_;refine FL ?_;refine ax 1 (CC 2 0) ?_;refine wk 7 ?_;refine ax 3 (DA Ah 1) ?_;refine wk 4 ?_;refine qJ0 (.dryCell 1 0 1 2 5 true rfl rfl rfl rfl rfl Al) ?_;refine wk 4 ?_;refine Ap (γ:=Nat) 3 (fun k=>⟨97,(Aa (Aa (Aa AU 1 (pZ 0)) 3 (pZ 1)) 4 (iN k)),(Af (Af (Af (A0 3) 0 (rf 2 [f.cells])) 1 (rf 2 [[.int .i64 f.regs,.ref 2 ((f.blocks.take (k)).map Block.bare).length 0 ((f.blocks.take (k)).map Block.bare).length]])) 2 (rt 5 (((f.blocks.take (k)).map Block.bare).map Block.cells)))⟩) (fun k=>k<=f.blocks.length/\(f.blocks.take k).all (fun x=>x.ins.all Tac.callOk)=true) (fun k=>f.blocks.length-k) 0 (qJ1 Cq B5) ⟨qZ1 _,rfl⟩ (fun _=>Ac (B9) rfl) ?_;intro k ⟨hk,hall⟩;refine wk 9 ?_;refine asp 16 (fun hb1=>?_) fun hb1=>?_
 .
  refine Ba ?_;have hkl:k<f.blocks.length:=by simpa using hb1
  obtain⟨x,hx⟩:=Ad hkl;have hxm:=q33 hx;have htk:=AT hx;refine wk 8 ?_;refine aq 22 (En Ah (Au hx)) ?_;refine wk 1 ?_;refine ax 5 (DA Ah 3) ?_;refine wk 13 ?_;refine ax 6 (DA Ah 4) ?_;refine wk 4 ?_;refine qJ0 (.dryCell 4 0 0 5 8 true rfl rfl rfl rfl rfl Al) ?_;refine wk 4 ?_;refine Ap (γ:=Nat) 6 (fun j=>⟨97,(Aa (Aa (Aa (Aa (Aa (Aa AU 1 (pZ 0)) 3 (pZ 1)) 4 (iN k)) 5 (pZ 3)) 6 (pZ 4)) 7 (iN j)),(Af (Af (Af (Af (Af (Af (A0 6) 0 (rf 2 [f.cells])) 1 (rf 2 [[.int .i64 f.regs,.ref 2 ((f.blocks.take (k)).map Block.bare).length 0 ((f.blocks.take (k)).map Block.bare).length]])) 2 (rt 5 (((f.blocks.take (k)).map Block.bare).map Block.cells))) 3 (rf 5 [x.cells])) 4 (rf 5 [[.ref 5 (Ee (x.ins.take j)).length 0 (Ee (x.ins.take j)).length,.int .i64 x.fin,.int .i64 x.v,.int .i64 x.to,.int .i64 x.els]])) 5 (rt 8 ((Ee (x.ins.take j)).map Tac.cells)))⟩) (fun j=>j<=x.ins.length/\(x.ins.take j).all Tac.callOk=true) (fun j=>x.ins.length-j) 0 (qJ1 Cq B5) ⟨qZ1 _,rfl⟩ (fun _=>Ac (Ac (Ac (Ac (B9) rfl) rfl) rfl) rfl) ?_
  intro j ⟨hj,hja⟩;refine wk 9 ?_;refine asp 37 (fun hb2=>?_) fun hb2=>?_
  .
   refine Ba ?_;have hjl:j<x.ins.length:=by have h:=hb2;simp only[q76,q56]at h;omega
   obtain⟨t,ht⟩:=Ad hjl;refine wk 8 ?_;refine aq 43 (En Ah (Au ht)) ?_;refine wk 1 ?_;refine ax 8 (DA Ah 6) ?_;refine wk 9 ?_;refine asp 47 (fun hb3=>?_) fun hb3=>?_
   .
    refine Ba ?_;have h10:(t.op==10)=true:=hb3;have h10':(t.op !=10)=false:=by simpa using h10
    have hnc:=Uq ht h10';refine wk 7 ?_;refine BM 51 (fun hb4=>?_) fun hb4=>?_
    .
     refine wk 35 ?_;exact Zj
    refine wk 5 ?_;refine BM 56 (fun hb5=>?_) fun hb5=>?_
    .
     refine wk 30 ?_;exact Zj
    refine wk 5 ?_;refine BM 61 (fun hb6=>?_) fun hb6=>?_
    .
     refine wk 25 ?_;exact Zj
    refine wk 5 ?_;refine BM 66 (fun hb7=>?_) fun hb7=>?_
    .
     refine wk 20 ?_;exact Zj
    refine wk 5 ?_;refine BM 71 (fun hb8=>?_) fun hb8=>?_
    .
     refine wk 15 ?_;exact Zj
    refine wk 5 ?_;refine BM 76 (fun hb9=>?_) fun hb9=>?_
    .
     refine wk 10 ?_;exact Zj
    refine wk 5 ?_;refine asp 80 (fun hb10=>?_) fun hb10=>?_
    .
     refine wk 5 ?_;exact Zj
    exact xp
   refine Bg ?_;have h10:(t.op !=10)=true:=by have h:=hb3;simpa using h
   have hnc:=Rs ht h10;have hok:=OQ h10;refine wk 5 ?_;refine ax 84 DB ?_;refine ax 85 (E4 Ah (n:=(Ee (x.ins.take j)).length) (m:=1) rfl rfl rfl rfl rfl rfl rfl rfl rfl Qi rfl rfl (q68 _) (.lst _ _) O3 O4 rfl (by have h1:=Kw x.ins j;have h2:=hi x hxm;simp[A6];omega) xU) ?_;exact xp
  refine Bg ?_;have hjge:x.ins.length<=j:=by have h:=hb2;simp only[q76,q16]at h;omega
  refine wk 1 ?_;refine qJ0 (.freezeCell 4 0 0 5 rfl rfl rfl rfl Aq Al) ?_;rw[q95,TN (l:=(Ee (x.ins.take j)).map Tac.cells) Aq,q20 hjge];refine wk 4 ?_;refine ax 90 DB ?_;refine ax 91 (E4 Ah (n:=((f.blocks.take (k)).map Block.bare).length) (m:=1) rfl rfl rfl rfl rfl rfl rfl rfl rfl Aq rfl rfl (q68 _) (.lst _ _) O3 O4 rfl (by simp[A6];omega) (by simp[A6];simp only[maxLen];omega)) ?_;refine wk 5 ?_;refine aq 18 (AS rfl rfl hkl (show f.blocks.length<=maxLen by simp only[maxLen];omega)) ?_;refine wk 2 ?_;exact⟨k+1,qV1 D5 (by repeat(first|exact qJ8 _ _|exact qV0 _ _|refine qJ9 ?_ (by first|rfl|exact congrArg (fun es=>some (rt 5 es)) (by rw[htk,q77,q77];rfl)|exact congrArg (fun n:Nat=>some (rf 2 [[.int .i64 f.regs,.ref 2 n 0 n]])) (by rw[htk,q77,q48];rfl)) rfl AE)),⟨hkl,Cv hx hall (CJ hja hjge)⟩,by omega⟩
 refine Bg ?_;have hge:f.blocks.length<=k:=by simpa using hb1
 refine wk 2 ?_;refine qJ0 (.freezeCell 1 0 1 2 rfl rfl rfl rfl Aq Al) ?_;rw[q95,TN (l:=((f.blocks.take (k)).map Block.bare).map Block.cells) Aq,q20 hge];refine wk 2 ?_;refine ax 94 DB ?_;refine wk 1 ?_;refine ax 96 (Cn Tryz.func29 (M0 (Blocks.mk 1048576 [f.bare]))) ?_;exact rJ
abbrev fg(h:Aj)(L:List RVal):Aj:=(Af (Af h 4 (rf 1 [[Bo 9 (L.map RVal.cells)]])) 9 (BU 9 (L.map RVal.cells)))
abbrev wR(p v o:Nat)(h:Aj)(w:RW):Aj:=(Af (Af (Af h p (rf 4 [[.ptr 4 1 0 0,Bo v (A5 w.regs),Bo o (w.out.map REff.cells),.int .i64 w.time]])) v (BU 1 (A5 w.regs))) o (BU 6 (w.out.map REff.cells)))
abbrev wH(p v o:Nat)(h:Aj)(w:RW):Aj:=wR p v o (fg h w.L) w
theorem Ju(L:List RVal)(hL:L.length<=100000)(v:RVal):Ca Tryz.prog 70 [.ptr 4 1 0 0,.agg v.cells] (Af (Af hNew 4 (rf 1 [[Bo 9 ((L).map RVal.cells)]])) 9 (BU 9 ((L).map RVal.cells))) (.int .i64 (Cd L v).1) (Af (Af hNone 4 (rf 1 [[Bo 9 (((Cd L v).2).map RVal.cells)]])) 9 (BU 9 (((Cd L v).2).map RVal.cells))):=by
 refine qK4 (n:=41) Ah Tryz.func70 rfl rfl ?_;refine FL ?_;refine ax 3 (CC 9 12) ?_;refine wk 8 ?_;refine Ap (γ:=Nat) 13 (fun k=>⟨41,(Aa (Aa (Aa AU 0 (pZ 4)) 3 (pZ 12)) 5 (iN k)),(Af (Af (Af (A0 13) 4 (rf 1 [[Bo 9 ((L).map RVal.cells)]])) 9 (BU 9 ((L).map RVal.cells))) 12 (rf 9 [v.cells]))⟩) (fun k=>k<=L.length/\∀j,j<k->∀y,L[j]?=some y->y.same v=false) (fun k=>L.length-k) 0 (qJ1 B4 B5) ⟨qZ1 _,fun j h=>absurd h (Nat.not_lt_zero _)⟩ (fun _=>Ac (B9) rfl) ?_;intro k ⟨hk,hF⟩;refine wk 8 ?_;refine aq 11 EU ?_;refine wk 2 ?_;refine asp 12 (fun hb1=>?_) fun hb1=>?_
 .
  refine Ba ?_;have hkl:k<L.length:=by have h:=hb1;simp only[q76,q56]at h;omega
  obtain⟨x,hx⟩:=Ad hkl;refine wk 10 ?_;refine dq 20 (Bl Ah (h0:=(q46 _)) (hn:=Kf)) ?_;refine dq 21 (Ao Ah rfl rfl rfl (I8 rfl (Au hx)) rfl) ?_;refine wk 1 ?_;refine dq 23 (E0 Ah false rfl rfl rfl AF rfl rfl rfl rfl rfl) ?_;refine wk 1 ?_;refine asp 23 (fun hb2=>?_) fun hb2=>?_
  .
   refine Ba ?_;have hsm:x.same v=true:=hb2;have hi:=QZ hx hsm hF;refine wk 6 ?_;refine⟨[_],⟨rfl,trivial⟩,?_,?_⟩<;>rw[MY hi]
   . rfl
   . exact(qJ5 (qJ5 (qJ6 _) rfl) rfl)
  refine Bg ?_;have hsm:x.same v=false:=hb2;refine wk 3 ?_;refine aq 14 (AS rfl rfl hkl (show L.length<=maxLen by simp only[maxLen];omega)) ?_;refine wk 2 ?_;exact⟨k+1,qV1 D5 o9,⟨hkl,fun j hj y hy=>(Nat.lt_or_eq_of_le (Nat.le_of_lt_succ hj)).elim (fun h=>hF j h y hy) (fun h=>by(subst h;rw[hx]at hy;exact(q86 hy)▸hsm))⟩,by omega⟩
 refine Bg ?_;have hge:L.length<=k:=by have h:=hb1;simp only[q76,q16]at h;omega
 have hn:=T1 (v:=v) (L:=L) (fun j y hy=>hF j (by have:=(q05.1 hy).1;omega) y hy);refine wk 9 ?_;refine dx 31 DB ?_;refine dx 32 (CF Ah (b:=9) (es:=((L).map RVal.cells)) rfl rfl rfl rfl rfl rfl rfl rfl rfl rfl rfl (q68 _) (vm _) (pF _) rfl rfl (by rw[q76];show _*72<=_;omega) Tp) ?_;refine wk 2 ?_;refine qK8 rfl rfl (CS Ah rfl rfl rfl rfl rfl rfl rfl rfl rfl (Cx _ _) Al (CL _ _) D6) ?_;refine wk 7 ?_;refine aq 39 EU ?_;refine aq 40 (A9 (r:=.int .i64 (L.length:Int)) rfl rfl rfl (vi eh eh eh)) ?_;refine wk 3 ?_;refine⟨[_],⟨rfl,trivial⟩,?_,?_⟩<;>rw[MZ hn]
 . rfl
 . exact(qJ5 (qJ5 (qJ6 _) cd) cd)
theorem T3(L:List RVal)(i:Int)(hi:0<=i/\i<L.length):Ca Tryz.prog 109 [.ptr 4 1 0 0,.int .i64 i] (Af (Af hNew 4 (rf 1 [[Bo 9 ((L).map RVal.cells)]])) 9 (BU 9 ((L).map RVal.cells))) (.tup [.int .u32 (CN L i).1,.bool (CN L i).2]) (Af (Af hNone 4 (rf 1 [[Bo 9 ((L).map RVal.cells)]])) 9 (BU 9 ((L).map RVal.cells))):=by
 refine qK4 (n:=23) Ah Tryz.func109 rfl rfl ?_;refine wk 12 ?_;refine dq 11 (Bl Ah (h0:=hi.1) (hn:=(by rw[q76];exact hi.2))) ?_;refine wk 1 ?_;refine dq 13 (Ao Ah rfl rfl rfl (t4 rfl (Xk hi)) rfl) ?_;refine wk 5 ?_;refine dq 19 (Bl Ah (h0:=hi.1) (hn:=(by rw[q76];exact hi.2))) ?_;refine wk 1 ?_;refine dq 21 (Ao Ah rfl rfl rfl (t4 rfl (Xk hi)) rfl) ?_;refine wk 5 ?_;refine⟨[_,_],⟨rfl,rfl,trivial⟩,rfl,(qJ5 (qJ5 (qJ6 _) rfl) rfl)⟩
theorem n7(a:Nat)(ha:a<4294967296):Ca Tryz.prog 101 [.int .u32 (a:Int)] (Af hNew 0 .free) (.ref 0 32 0 32) (Af hNone 0 (rt 1 (By (FI a 32)))):=by
 refine qK4 (n:=18) Ah Tryz.func101 rfl rfl ?_;refine wk 10 ?_;refine qJ0 (.dry 3 0 1 true rfl rfl rfl Al) ?_;refine wk 4 ?_;refine qJ7 (γ:=Nat) (fun k=>⟨18,(Aa (Aa (Aa AU 0 (.int .u32 ((a/2^k:Nat):Int))) 3 (.ref 0 k 0 k)) 4 (iN k)),(Af hNone 0 (rt 1 (By (FI a k))))⟩) (fun k=>k<=32) (fun k=>32-k) 0 (qJ1 yi B5) (qZ1 _) ?_;intro k hk;exact xE
theorem n6(a:Nat)(ha:a<4294967296):Ca Tryz.prog 101 [.int .u32 (a:Int)] (Af hNew 1 .free) (.ref 1 32 0 32) (Af hNone 1 (rt 1 (By (FI a 32)))):=by
 refine qK4 (n:=18) Ah Tryz.func101 rfl rfl ?_;refine wk 10 ?_;refine qJ0 (.dry 3 1 1 true rfl rfl rfl Al) ?_;refine wk 4 ?_;refine qJ7 (γ:=Nat) (fun k=>⟨18,(Aa (Aa (Aa AU 0 (.int .u32 ((a/2^k:Nat):Int))) 3 (.ref 1 k 0 k)) 4 (iN k)),(Af hNone 1 (rt 1 (By (FI a k))))⟩) (fun k=>k<=32) (fun k=>32-k) 0 (qJ1 yi B5) (qZ1 _) ?_;intro k hk;exact xE
theorem iw(l:List Nat)(hl:l.length=32)(hb:∀b∈l,b<2):Pu Tryz.prog 102 [.lst false (By l)] (.int .u32 (valB l:Int)):=by
 refine qK5 (n:=23) Ah Tryz.func102 rfl rfl ?_;refine wk 13 ?_;refine aq 7 (A9 (r:=.int .i64 (31:Int)) rfl rfl rfl (by rw[DN,hl];rfl)) ?_;refine wk 3 ?_;refine qJ7 (γ:=Nat) (fun k=>⟨23,(Aa (Aa (Aa AU 0 (.lst false (By l))) 3 (.int .u64 ((valB (l.drop k):Nat):Int))) 4 (.int .i64 ((k:Int)-1))),hNone⟩) (fun k=>k<=32) (fun k=>k) 32 (qJ1 (by repeat(first|exact qJ2 _|refine qJ3 ?_ (by first|rfl|exact congrArg (fun(n:Nat)=>some (AV.int .u64 (n:Int))) (by rw[List.drop_eq_nil_of_le Ab];rfl)))) B5) (qZ0 _) ?_;intro k hk;refine wk 6 ?_;refine asp 9 (fun hb1=>?_) fun hb1=>?_
 .
  refine Ba ?_;obtain⟨m,rfl⟩:∃m,k=m+1:=⟨k-1,by have h:=hb1;simp at h;omega⟩
  obtain⟨b,hx⟩:=Ad (l:=l) (k:=m) Ab;have hb2:=hb b (q33 hx);have hv:=MI hl hb (m+1);have hv2:=eL hx;refine wk 5 ?_;refine aq 13 (A9 (r:=.int .u64 ((2*valB (l.drop (m+1)):Nat):Int)) rfl rfl rfl (Sj (a:=2) (b:=valB (l.drop (m+1))) (C6 Ab))) ?_;refine wk 2 ?_;refine aq 16 (An Ah rfl rfl rfl rfl rfl rfl Ab (cs:=[.int .i64 (b:Int)]) (by rw[show(((m+1:Nat):Int)-1).toNat=m by omega];show(By l)[m]?=_;rw[By,q54,hx];rfl) rfl) ?_;refine wk 1 ?_;refine aq 18 (Dc Ah rfl rfl rfl rfl rfl (C6 Ab)) ?_;refine aq 19 (A9 (r:=.int .u64 ((2*valB (l.drop (m+1))+b:Nat):Int)) rfl rfl rfl (Jk (C6 Ab))) ?_;refine wk 4 ?_;refine aq 11 (A9 (r:=.int .i64 ((m:Int)-1)) rfl rfl rfl (by simp only[A8,BP,isShift,qZ3,qZ8];rw[B8 Ab Ab];congr 2;omega)) ?_;refine wk 2 ?_;exact⟨m,qJ1 (by repeat(first|exact qJ2 _|refine qJ3 ?_ (by first|rfl|exact congrArg (fun(n:Nat)=>some (AV.int .u64 (n:Int))) Ab))) B5,Ab,by omega⟩
 refine Bg ?_;obtain rfl:k=0:=by have h:=hb1;simp at h;omega
 refine wk 4 ?_;refine aq 21 (A9 (r:=.int .u64 ((valB (l.drop 0)%4294967296:Nat):Int)) rfl rfl rfl (G9 (a:=valB (l.drop 0)) (b:=4294967296) Al)) ?_;refine aq 22 (Dc Ah rfl rfl rfl rfl rfl (EG (Nat.mod_lt _ Al))) ?_;refine wk 2 ?_;refine CE ⟨[_],⟨rfl,trivial⟩,?_,rfl⟩;show AV.int .u32 _=_;rw[Nat.mod_eq_of_lt (MI hl hb 0),q95]
theorem qW(op:Int)(a b:Nat)(ha:a<4294967296)(hb:b<4294967296):Pu Tryz.prog 93 [.int .i64 op,.int .u32 (a:Int),.int .u32 (b:Int)] (.int .u32 (valB (Gw op a b):Int)):=by
 refine qK5 (n:=50) Ah Tryz.func93 rfl rfl ?_;refine wk 7 ?_;refine ax 12 (GD (n7 a ha) [0] [(0,(rt 1 (By (FI a 32))))] rfl Tryz.func101 AF rfl rfl rfl ⟨⟨_,rfl,rfl⟩,trivial⟩ rfl Cf ⟨⟨_,rfl,rfl,rfl⟩,trivial⟩ rfl) ?_;refine wk 1 ?_;refine ax 14 (GD (n6 b hb) [1] [(1,(rt 1 (By (FI b 32))))] rfl Tryz.func101 AF rfl rfl rfl ⟨⟨_,rfl,rfl⟩,trivial⟩ rfl Cf ⟨⟨_,rfl,rfl,rfl⟩,trivial⟩ rfl) ?_;refine wk 9 ?_;refine qJ7 (γ:=Nat) (fun k=>⟨50,(Aa (Aa (Aa (Aa AU 0 (.int .i64 op)) 7 (.ref 0 32 0 32)) 8 (.ref 1 32 0 32)) 9 (iN k)),(Af (Af hNone 0 (rt 1 (By (KA op a b k)))) 1 (rt 1 (By (FI b 32))))⟩) (fun k=>k<=32) (fun k=>32-k) 0 (qJ1 B4 (by repeat(first|exact qJ4 _|exact qJ6 _|exact AO _|exact AG Dl|refine qJ5 ?_ (by first|rfl|exact congrArg (fun l=>some (rt 1 (By l))) (gj op a b).symm)|refine AN ?_ Dl|refine Bh ?_ Al))) (qZ1 _) ?_
 intro k hk;refine wk 6 ?_;refine asp 16 (fun hb1=>?_) fun hb1=>?_
 .
  refine Ba ?_;have hkl:k<32:=by have h:=hb1;simp at h;omega
  refine wk 7 ?_;refine dq 21 (Ae Ah (hm:=uK)) ?_;refine dq 22 (Ao Ah rfl rfl rfl (.ptr _ _ _ _ _ _ _ _ rfl cf (HC (Rz hkl))) rfl) ?_;refine wk 2 ?_;refine dq 25 (Ae Ah (hm:=uK)) ?_;refine dq 26 (Ao Ah rfl rfl rfl (.ptr _ _ _ _ _ _ _ _ rfl (by simp[DN,DQ]) (HC (OT hkl))) rfl) ?_;refine dq 27 (A9 (r:=.int .i64 ((a/2^k%2+b/2^k%2:Nat):Int)) rfl rfl rfl (Jk (KW Ab))) ?_;refine wk 6 ?_;refine aq 30 (Ae Ah (hm:=uK)) ?_;refine qK6 rfl rfl (AY Ah rfl rfl rfl rfl rfl rfl cf (HC (Rz hkl)) rfl Al rfl C1) ?_;refine wk 6 ?_;refine BM 33 (fun hb2=>?_) fun hb2=>?_
  .
   refine wk 4 ?_;refine BM 37 (fun hb3=>?_) fun hb3=>?_
   .
    refine wk 12 ?_;exact uB
   refine wk 3 ?_;refine BM 40 (fun hb4=>?_) fun hb4=>?_
   .
    refine wk 5 ?_;refine asp 44 (fun hb5=>?_) fun hb5=>?_
    .
     refine wk 4 ?_;exact uB
    refine wk 4 ?_;exact xF
   refine wk 9 ?_;exact xF
  refine wk 7 ?_;refine BM 40 (fun hb6=>?_) fun hb6=>?_
  .
   refine wk 5 ?_;refine asp 44 (fun hb7=>?_) fun hb7=>?_
   .
    refine wk 4 ?_;exact uB
   refine wk 4 ?_;exact xF
  refine wk 9 ?_;exact xF
 refine Bg ?_;have hge:¬k<32:=by have h:=hb1;simp at h;omega
 obtain rfl:k=32:=by omega
 rw[mB];refine wk 2 ?_;refine qJ0 (.freezeAll 7 0 rfl rfl (by simp[DN,Fm])) ?_;refine wk 2 ?_;refine ax 49 (Cn Tryz.func102 (iw _ (Fm _ _ _) (n4 _ _ _))) ?_;refine wk 2 ?_;refine CE ⟨[_],⟨rfl,trivial⟩,?_,rfl⟩;rfl
theorem fv(op:Int)(a b:Nat)(ha:a<4294967296)(hb:b<4294967296)(ho:op=12\/op=13):Pu Tryz.prog 94 [.int .i64 op,.int .u32 (a:Int),.int .u32 (b:Int)] (.int .u32 (Hf op a b)):=by
 refine qK5 (n:=27) Ah Tryz.func94 rfl rfl ?_;refine wk 10 ?_;refine asp 10 (fun hb1=>?_) fun hb1=>?_
 .
  refine Ba ?_;have hb32:32<=b:=by have h:=hb1;simp at h;omega
  refine wk 4 ?_;refine CE ⟨[_],⟨rfl,trivial⟩,?_,rfl⟩;show AV.int .u32 _=_;rw[Zn op hb32]
 refine Bg ?_;have hb32:b<32:=by have h:=hb1;simp at h;omega
 refine wk 4 ?_;refine aq 12 (Dc Ah rfl rfl rfl rfl rfl (C6 Ab)) ?_;refine wk 8 ?_;refine qJ7 (γ:=Nat) (fun k=>⟨27,(Aa (Aa (Aa (Aa AU 0 (.int .i64 op)) 2 (.int .u32 (b:Int))) 7 (.int .u64 ((shN op a k:Nat):Int))) 8 (.int .u32 (k:Int))),hNone⟩) (fun k=>k<=b) (fun k=>b-k) 0 (qJ1 B4 B5) (qZ1 _) ?_;intro k hk;refine wk 7 ?_;refine asp 15 (fun hb2=>?_) fun hb2=>?_
 .
  refine Ba ?_;have hkl:k<b:=by have h:=hb2;simp at h;omega
  have hlt:=VB (op:=op) ha k;refine wk 8 ?_;refine asp 19 (fun hb3=>?_) fun hb3=>?_
  .
   refine wk 3 ?_;refine aq 21 (A9 (r:=.int .u64 ((2*shN op a k:Nat):Int)) rfl rfl rfl (Sj (a:=2) (b:=shN op a k) (C6 Ab))) ?_;refine aq 22 (A9 (r:=.int .u64 ((2*shN op a k%4294967296:Nat):Int)) rfl rfl rfl (G9 (a:=2*shN op a k) (b:=4294967296) Al)) ?_;exact xf
  refine wk 3 ?_;refine aq 24 (A9 (r:=.int .u64 ((shN op a k/2:Nat):Int)) rfl rfl rfl (NB (a:=shN op a k) (b:=2) Al (C6 Ab))) ?_;exact xf
 refine Bg ?_;obtain rfl:k=b:=by have h:=hb2;simp at h;omega
 refine wk 4 ?_;refine aq 26 (Dc Ah rfl rfl rfl rfl rfl (EG (VB ha _))) ?_;refine wk 2 ?_;refine CE ⟨[_],⟨rfl,trivial⟩,?_,rfl⟩;show AV.int .u32 _=_;rw[Vl ha hb32 ho]
theorem dH(ok:Bool):Pu Tryz.prog 95 [.bool ok] (.int .u32 (bif ok then 1 else 0)):=by
 refine qK5 (n:=4) Ah Tryz.func95 rfl rfl ?_;refine wk 9 ?_;refine asp 3 (fun hb1=>?_) fun hb1=>?_
 .
  refine wk 5 ?_;refine CE ⟨[_],⟨rfl,trivial⟩,?_,rfl⟩;show AV.int .u32 _=_;simp[*]
 refine wk 6 ?_;refine CE ⟨[_],⟨rfl,trivial⟩,?_,rfl⟩;show AV.int .u32 _=_;simp[*]
theorem Z4(op:Int)(a b:Nat)(ha:a<4294967296)(hb:b<4294967296):Pu Tryz.prog 72 [.int .i64 op,.int .u32 (a:Int),.int .u32 (b:Int)] (ck (Cp op a b)):=by
 refine qK5 (n:=80) Ah Tryz.func72 rfl rfl ?_;refine wk 8 ?_;refine aq 11 (Dc Ah rfl rfl rfl rfl rfl (C6 Ab)) ?_;refine wk 1 ?_;refine aq 13 (Dc Ah rfl rfl rfl rfl rfl (C6 Ab)) ?_;refine wk 14 ?_;refine asp 15 (fun hb1=>?_) fun hb1=>?_
 .
  refine Ba ?_;obtain rfl:op=4:=by simpa using hb1
  refine wk 4 ?_;refine aq 19 (A9 (r:=.int .u64 ((a+b:Nat):Int)) rfl rfl rfl (Jk (C6 Ab))) ?_;refine aq 20 (A9 (r:=.int .u64 (((a+b)%4294967296:Nat):Int)) rfl rfl rfl (G9 (a:=a+b) (b:=4294967296) Al)) ?_;refine aq 21 (Dc Ah rfl rfl rfl rfl rfl (EG (Nat.mod_lt _ Al))) ?_;refine wk 4 ?_;refine⟨[_,_],⟨rfl,rfl,trivial⟩,?_,rfl⟩;show AV.tup _=_;rw[jO];rfl
 refine wk 6 ?_;refine asp 22 (fun hb2=>?_) fun hb2=>?_
 .
  refine Ba ?_;obtain rfl:op=5:=by simpa using hb2
  refine wk 3 ?_;refine aq 25 (A9 (r:=.int .u64 ((a+4294967296:Nat):Int)) rfl rfl rfl (Jk (b:=4294967296) (C6 Ab))) ?_;refine wk 1 ?_;refine aq 27 (A9 (r:=.int .u64 ((a+4294967296-b:Nat):Int)) rfl rfl rfl (nv Ab (C6 Ab))) ?_;refine aq 28 (A9 (r:=.int .u64 (((a+4294967296-b)%4294967296:Nat):Int)) rfl rfl rfl (G9 (a:=a+4294967296-b) (b:=4294967296) Al)) ?_;refine aq 29 (Dc Ah rfl rfl rfl rfl rfl (EG (Nat.mod_lt _ Al))) ?_;refine wk 4 ?_;refine⟨[_,_],⟨rfl,rfl,trivial⟩,?_,rfl⟩;show AV.tup _=_;rw[jJ hb];rfl
 refine wk 6 ?_;refine asp 30 (fun hb3=>?_) fun hb3=>?_
 .
  refine Ba ?_;obtain rfl:op=6:=by simpa using hb3
  have hab:a*b<18446744073709551616:=by have:=Nat.mul_lt_mul'' ha hb;omega
  refine wk 4 ?_;refine aq 34 (A9 (r:=.int .u64 ((a*b:Nat):Int)) rfl rfl rfl (Sj (C6 hab))) ?_;refine aq 35 (A9 (r:=.int .u64 ((a*b%4294967296:Nat):Int)) rfl rfl rfl (G9 (a:=a*b) (b:=4294967296) Al)) ?_;refine aq 36 (Dc Ah rfl rfl rfl rfl rfl (EG (Nat.mod_lt _ Al))) ?_;refine wk 4 ?_;refine⟨[_,_],⟨rfl,rfl,trivial⟩,?_,rfl⟩;show AV.tup _=_;rw[jK];rfl
 refine wk 6 ?_;refine asp 37 (fun hb4=>?_) fun hb4=>?_
 .
  refine Ba ?_;obtain rfl:op=7:=by simpa using hb4
  refine wk 6 ?_;refine asp 40 (fun hb5=>?_) fun hb5=>?_
  .
   refine Ba ?_;obtain rfl:b=0:=by have h:=hb5;simp at h;omega
   exact su
  refine Bg ?_;have hb0:¬b=0:=by have h:=hb5;simp at h;omega
  have hda:=Nat.div_le_self a b;refine wk 5 ?_;refine aq 43 (A9 (r:=.int .u64 ((a/b:Nat):Int)) rfl rfl rfl (NB (Nat.pos_of_ne_zero hb0) (C6 Ab))) ?_;refine aq 44 (Dc Ah rfl rfl rfl rfl rfl (EG Ab)) ?_;refine wk 4 ?_;refine⟨[_,_],⟨rfl,rfl,trivial⟩,?_,rfl⟩;show AV.tup _=_;rw[jN ha hb0];rfl
 refine wk 6 ?_;refine asp 45 (fun hb6=>?_) fun hb6=>?_
 .
  refine Ba ?_;obtain rfl:op=8:=by simpa using hb6
  refine wk 6 ?_;refine asp 48 (fun hb7=>?_) fun hb7=>?_
  .
   refine Ba ?_;obtain rfl:b=0:=by have h:=hb7;simp at h;omega
   exact su
  refine Bg ?_;have hb0:¬b=0:=by have h:=hb7;simp at h;omega
  have hma:=Nat.mod_lt a (Nat.pos_of_ne_zero hb0);refine wk 5 ?_;refine aq 51 (A9 (r:=.int .u64 ((a%b:Nat):Int)) rfl rfl rfl (G9 (Nat.pos_of_ne_zero hb0))) ?_;refine aq 52 (Dc Ah rfl rfl rfl rfl rfl (EG Ab)) ?_;refine wk 4 ?_;refine⟨[_,_],⟨rfl,rfl,trivial⟩,?_,rfl⟩;show AV.tup _=_;rw[jL hb0];rfl
 refine wk 7 ?_;refine asp 53 (fun hb8=>?_) fun hb8=>?_
 .
  refine wk 5 ?_;exact ux
 refine wk 6 ?_;refine asp 53 (fun hb9=>?_) fun hb9=>?_
 .
  refine wk 5 ?_;exact ux
 refine wk 5 ?_;refine asp 53 (fun hb10=>?_) fun hb10=>?_
 .
  refine wk 3 ?_;exact ux
 refine wk 7 ?_;refine asp 61 (fun hb11=>?_) fun hb11=>?_
 .
  refine wk 5 ?_;exact s8
 refine wk 5 ?_;refine asp 61 (fun hb12=>?_) fun hb12=>?_
 .
  refine wk 3 ?_;exact s8
 refine wk 6 ?_;refine asp 68 (fun hb13=>?_) fun hb13=>?_
 .
  refine Ba ?_;obtain rfl:op=14:=by simpa using hb13
  refine wk 5 ?_;refine ax 73 (Cn Tryz.func95 (dH _)) ?_;refine wk 4 ?_;refine⟨[_,_],⟨rfl,rfl,trivial⟩,?_,rfl⟩;show AV.tup _=_;rw[pi];rfl
 refine wk 6 ?_;refine asp 74 (fun hb14=>?_) fun hb14=>?_
 .
  refine Ba ?_;obtain rfl:op=15:=by simpa using hb14
  refine wk 5 ?_;refine ax 79 (Cn Tryz.func95 (dH _)) ?_;refine wk 4 ?_;refine⟨[_,_],⟨rfl,rfl,trivial⟩,?_,rfl⟩;show AV.tup _=_;rw[pj];rfl
 refine wk 8 ?_;exact Mw
theorem T5(op a b:Int)(ha:FY a)(hb:FY b):Pu Tryz.prog 72 [.int .i64 op,.int .u32 a,.int .u32 b] (ck (Cp op a b)):=by
 obtain⟨n,rfl⟩:=Int.eq_ofNat_of_zero_le ha.1;obtain⟨m,rfl⟩:=Int.eq_ofNat_of_zero_le hb.1;exact Z4 op n m MA (by have:=hb.2;omega)
theorem EZ(R m:Nat)(w:RW)(h:ROk R m w)(hm:m<=90000)(e:REff):∀jp jv jo:Nat,WD jp jv jo->Ca Tryz.prog 100 [.ptr jp 1 0 0,.agg e.cells] (wH jp jv jo hNew w) (.int .i64 (w.out.length:Int)) (wH jp jv jo hNone ((w.eff e))):=by
 refine t3 ?_ ?_;all_goals
  intro jp jv jo;have hP:WD jp jv jo:=by first|exact .a|exact .b
  have hel:=h.el;refine qK4 (n:=21) Ah Tryz.func100 rfl rfl ?_;refine FL ?_;refine ax 3 (CC 6 12) ?_;refine wk 10 ?_;refine dx 11 DB ?_;refine dx 12 (CF Ah (b:=jo) (es:=((w.out).map REff.cells)) rfl rfl rfl rfl rfl rfl rfl rfl rfl rfl rfl (q68 _) (vx _) (pM _) rfl rfl jy Tp) ?_;refine wk 2 ?_;refine qK8 rfl rfl (CS Ah rfl rfl rfl rfl rfl rfl rfl rfl rfl (Cx _ _) Al (CL _ _) D6) ?_;refine wk 7 ?_;refine aq 19 EU ?_;refine aq 20 (A9 (r:=.int .i64 (w.out.length:Int)) rfl rfl rfl (vi eh eh eh)) ?_;refine wk 3 ?_;refine⟨[_],⟨rfl,trivial⟩,rfl,?_⟩;exact(qJ5 (qJ5 (qJ5 (qJ5 (qJ5 (qJ6 _) rfl) rfl) (by show _=some (rf 4 [[.ptr 4 1 0 0,Bo jv (A5 w.regs),Bo jo ((w.out++[e]).map REff.cells),.int .i64 w.time]]);rw[q77];rfl)) rfl) (by show _=some (BU 6 ((w.out++[e]).map REff.cells));rw[q77];rfl))
theorem cP(w:RW)(t:Tac):w.bin t=⟨(Cd w.L (Es w t)).2,A4 w.regs t.d (Cd w.L (Es w t)).1,(w.div t).out,w.time⟩:=by
 cases hr:rrisky w t with
 |true=>rw[la hr];simp only[RW.div,hr,qZ7];rfl
 |false=>rw[pN hr];simp only[RW.div,hr,qZ3]
theorem k9(R m:Nat)(w:RW)(h:ROk R m w)(hm:m<=90000)(t:Tac)(hd:0<=t.d/\t.d<R)(ha:0<=t.a/\t.a<R)(hb:0<=t.b/\t.b<R):∀jp jv jo:Nat,WD jp jv jo->Ca Tryz.prog 99 [.ptr jp 1 0 0,.agg t.cells] (wH jp jv jo hNew w) (.tup []) (wH jp jv jo hNone ((w.bin t))):=by
 refine t3 ?_ ?_;all_goals
  intro jp jv jo;have hP:WD jp jv jo:=by first|exact .a|exact .b
  have hel:=h.el;have hkl:=h.kl;have hxd:=h.at hd;have hxa:=h.at ha;have hxb:=h.at hb;refine qK4 (n:=120) Ah Tryz.func99 rfl rfl ?_;refine FL ?_;refine ax 3 (CC 8 12) ?_;refine wk 9 ?_;refine dq 19 (Bl Ah (h0:=hxa.1) (hn:=hxa.2.2.1)) ?_;refine dq 20 (Ao Ah rfl rfl rfl (I8 rfl (BI ⟨hxa.1,hxa.2.1⟩)) rfl) ?_;refine wk 6 ?_;refine dq 27 (Bl Ah (h0:=hxb.1) (hn:=hxb.2.2.1)) ?_;refine dq 28 (Ao Ah rfl rfl rfl (I8 rfl (BI ⟨hxb.1,hxb.2.1⟩)) rfl) ?_;refine wk 10 ?_;refine ax 35 (GD (T3 w.L (Ai w.regs t.a) hxa.2.2.2) [9,4] [(4,(rf 1 [[Bo 9 ((w.L).map RVal.cells)]])),(9,(BU 9 ((w.L).map RVal.cells)))] rfl Tryz.func109 AF rfl rfl rfl ⟨⟨_,rfl,A1⟩,⟨_,rfl,A1⟩,trivial⟩ rfl Cf ⟨⟨_,rfl,rfl,A1⟩,⟨_,rfl,rfl,A1⟩,trivial⟩ rfl) ?_;refine wk 13 ?_;refine ax 44 (GD (T3 w.L (Ai w.regs t.b) hxb.2.2.2) [9,4] [(4,(rf 1 [[Bo 9 ((w.L).map RVal.cells)]])),(9,(BU 9 ((w.L).map RVal.cells)))] rfl Tryz.func109 AF rfl rfl rfl ⟨⟨_,rfl,A1⟩,⟨_,rfl,A1⟩,trivial⟩ rfl Cf ⟨⟨_,rfl,rfl,A1⟩,⟨_,rfl,rfl,A1⟩,trivial⟩ rfl) ?_
  refine wk 7 ?_;refine qV2 (γ:=Unit) (fun _u=>⟨120,(Aa (Aa (Aa (Aa (Aa (Aa (Aa (Aa (Aa AU 0 (pZ jp)) 3 (pZ 12)) 4 (.int .i64 (Ai w.regs t.a))) 5 (.int .i64 (Ai w.regs t.b))) 6 (.int .u32 (CN w.L (Ai w.regs t.a)).1)) 8 (.int .u32 (CN w.L (Ai w.regs t.b)).1)) 7 (.bool (CN w.L (Ai w.regs t.a)).2)) 9 (.bool (CN w.L (Ai w.regs t.b)).2)) 10 (.bool (rrisky w t))),(wH jp jv jo (Af (A0 13) 12 (rf 8 [t.cells])) w)⟩) (fun _u=>True) ?_ ?_
  .
   refine wk 5 ?_;refine BM 50 (fun hb1=>?_) fun hb1=>?_
   .
    refine wk 8 ?_;refine BM 58 (fun hb2=>?_) fun hb2=>?_
    .
     refine wk 6 ?_;exact iT
    refine wk 6 ?_;exact iT
   refine wk 5 ?_;refine BM 55 (fun hb3=>?_) fun hb3=>?_
   .
    refine wk 3 ?_;refine BM 58 (fun hb4=>?_) fun hb4=>?_
    .
     refine wk 6 ?_;exact iT
    refine wk 6 ?_;exact iT
   refine wk 9 ?_;exact iT
  intro _u _;refine wk 5 ?_;refine asp 63 (fun hb5=>?_) fun hb5=>?_
  .
   refine Ba ?_;have hr:rrisky w t=true:=hb5;refine wk 9 ?_;refine ax 72 (GD (EZ R m w h Ab ⟨t.op,t.k,0,0,(Ai w.regs t.a),(Ai w.regs t.b)⟩ jp jv jo hP) [jo,jv,jp,9,4] [(4,(rf 1 [[Bo 9 ((((w).eff ⟨t.op,t.k,0,0,(Ai w.regs t.a),(Ai w.regs t.b)⟩).L).map RVal.cells)]])),(9,(BU 9 ((((w).eff ⟨t.op,t.k,0,0,(Ai w.regs t.a),(Ai w.regs t.b)⟩).L).map RVal.cells))),(jp,(rf 4 [[.ptr 4 1 0 0,Bo jv (A5 (((w).eff ⟨t.op,t.k,0,0,(Ai w.regs t.a),(Ai w.regs t.b)⟩).regs)),Bo jo ((((w).eff ⟨t.op,t.k,0,0,(Ai w.regs t.a),(Ai w.regs t.b)⟩).out).map REff.cells),.int .i64 (((w).eff ⟨t.op,t.k,0,0,(Ai w.regs t.a),(Ai w.regs t.b)⟩).time)]])),(jv,(BU 1 (A5 (((w).eff ⟨t.op,t.k,0,0,(Ai w.regs t.a),(Ai w.regs t.b)⟩).regs)))),(jo,(BU 6 ((((w).eff ⟨t.op,t.k,0,0,(Ai w.regs t.a),(Ai w.regs t.b)⟩).out).map REff.cells)))] rfl Tryz.func100 AF rfl rfl rfl ⟨⟨_,rfl,A1⟩,⟨_,rfl,A1⟩,⟨_,rfl,A1⟩,⟨_,rfl,A1⟩,⟨_,rfl,A1⟩,trivial⟩ rfl Cf ⟨⟨_,rfl,rfl,A1⟩,⟨_,rfl,rfl,A1⟩,⟨_,rfl,rfl,A1⟩,⟨_,rfl,rfl,A1⟩,⟨_,rfl,rfl,A1⟩,trivial⟩ rfl) ?_
   refine wk 3 ?_;refine qV2 (γ:=Unit) (fun _u=>⟨120,(Aa (Aa (Aa (Aa (Aa (Aa (Aa AU 0 (pZ jp)) 3 (pZ 12)) 4 (.int .i64 (Ai w.regs t.a))) 5 (.int .i64 (Ai w.regs t.b))) 6 (.int .u32 (CN w.L (Ai w.regs t.a)).1)) 8 (.int .u32 (CN w.L (Ai w.regs t.b)).1)) 80 (.bool (Hu w t))),(Af (Af (Af (Af (Af (Af (A0 13) 12 (rf 8 [t.cells])) 4 (rf 1 [[Bo 9 ((w.L).map RVal.cells)]])) 9 (BU 9 ((w.L).map RVal.cells))) jp (rf 4 [[.ptr 4 1 0 0,Bo jv (A5 (w.regs)),Bo jo (((w.div t).out).map REff.cells),.int .i64 (w.time)]])) jv (BU 1 (A5 (w.regs)))) jo (BU 6 (((w.div t).out).map REff.cells)))⟩) (fun _u=>True) ?_ ?_
   .
    refine wk 3 ?_;refine BM 74 (fun hb6=>?_) fun hb6=>?_
    .
     refine wk 3 ?_;refine BM 77 (fun hb7=>?_) fun hb7=>?_
     .
      refine wk 4 ?_;exact d7
     refine wk 4 ?_;exact d7
    refine wk 7 ?_;exact d7
   intro _u _;refine asp 80 (fun hb8=>?_) fun hb8=>?_
   .
    refine Ba ?_;have hf:Hu w t=true:=hb8;exact xD
   refine Bg ?_;have hf:Hu w t=false:=hb8;exact xB
  refine Bg ?_;have hr:rrisky w t=false:=hb5;refine wk 3 ?_;refine qV2 (γ:=Unit) (fun _u=>⟨120,(Aa (Aa (Aa (Aa (Aa (Aa (Aa AU 0 (pZ jp)) 3 (pZ 12)) 4 (.int .i64 (Ai w.regs t.a))) 5 (.int .i64 (Ai w.regs t.b))) 6 (.int .u32 (CN w.L (Ai w.regs t.a)).1)) 8 (.int .u32 (CN w.L (Ai w.regs t.b)).1)) 80 (.bool (Hu w t))),(Af (Af (Af (Af (Af (Af (A0 13) 12 (rf 8 [t.cells])) 4 (rf 1 [[Bo 9 ((w.L).map RVal.cells)]])) 9 (BU 9 ((w.L).map RVal.cells))) jp (rf 4 [[.ptr 4 1 0 0,Bo jv (A5 (w.regs)),Bo jo (((w.div t).out).map REff.cells),.int .i64 (w.time)]])) jv (BU 1 (A5 (w.regs)))) jo (BU 6 (((w.div t).out).map REff.cells)))⟩) (fun _u=>True) ?_ ?_
  .
   refine wk 3 ?_;refine BM 74 (fun hb9=>?_) fun hb9=>?_
   .
    refine wk 3 ?_;refine BM 77 (fun hb10=>?_) fun hb10=>?_
    .
     refine wk 4 ?_;exact d7
    refine wk 4 ?_;exact d7
   refine wk 7 ?_;exact d7
  intro _u _;refine asp 80 (fun hb11=>?_) fun hb11=>?_
  .
   refine Ba ?_;have hf:Hu w t=true:=hb11;exact xD
  refine Bg ?_;have hf:Hu w t=false:=hb11;exact xB
theorem fq(R m:Nat)(w:RW)(h:ROk R m w)(hm:m<=80000)(t:Tac)(ht:Kb t R):∀jp jv jo:Nat,WD jp jv jo->Ca Tryz.prog 92 [.ptr jp 1 0 0,.agg t.cells] (wH jp jv jo hNew w) (.tup []) (wH jp jv jo hNone ((w.step t))):=by
 refine t3 ?_ ?_;all_goals
  intro jp jv jo;have hP:WD jp jv jo:=by first|exact .a|exact .b
  have hel:=h.el;have hkl:=h.kl;have htl:=h.tl;refine qK4 (n:=209) Ah Tryz.func92 rfl rfl ?_;refine FL ?_;refine ax 3 (CC 8 12) ?_;refine wk 12 ?_;refine asp 22 (fun hb1=>?_) fun hb1=>?_
  .
   refine Ba ?_;have ho:t.op=1:=by simpa using hb1
   have hxd:=h.at (ht.d B2);refine wk 14 ?_;refine dx 37 (GD (Ju w.L Ab ⟨1,0,0,0,0,0,0,0,t.n⟩) [9,4] [(4,(rf 1 [[Bo 9 (((Cd w.L ⟨1,0,0,0,0,0,0,0,t.n⟩).2).map RVal.cells)]])),(9,(BU 9 (((Cd w.L ⟨1,0,0,0,0,0,0,0,t.n⟩).2).map RVal.cells)))] rfl Tryz.func70 AF rfl rfl rfl ⟨⟨_,rfl,A1⟩,⟨_,rfl,A1⟩,trivial⟩ rfl Cf ⟨⟨_,rfl,rfl,A1⟩,⟨_,rfl,rfl,A1⟩,trivial⟩ rfl) ?_;refine dq 38 (Bl Ah (h0:=hxd.1) (hn:=hxd.2.2.1)) ?_;refine qK8 rfl rfl (H6 Ah rfl rfl rfl rfl rfl rfl rfl Zm (CP _) rfl rfl rfl) ?_;refine wk 1 ?_;refine⟨[],trivial,rfl,?_⟩;rw[kJ ho];exact uz
  refine wk 6 ?_;refine asp 39 (fun hb2=>?_) fun hb2=>?_
  .
   refine Ba ?_;have ho:t.op=2:=by simpa using hb2
   have hxd:=h.at (ht.d B2);have hxa:=h.at (ht.a (.inl B2));refine wk 13 ?_;refine dq 53 (Bl Ah (h0:=hxa.1) (hn:=hxa.2.2.1)) ?_;refine dq 54 (Ao Ah rfl rfl rfl (I8 rfl (BI ⟨hxa.1,hxa.2.1⟩)) rfl) ?_;refine dq 55 (Bl Ah (h0:=hxd.1) (hn:=hxd.2.2.1)) ?_;refine qK8 rfl rfl (H6 Ah rfl rfl rfl rfl rfl rfl rfl Zm (CP _) rfl rfl rfl) ?_;refine wk 1 ?_;refine⟨[],trivial,rfl,?_⟩;rw[kI ho];exact uz
  refine wk 6 ?_;refine asp 56 (fun hb3=>?_) fun hb3=>?_
  .
   refine Ba ?_;have ho:t.op=3:=by simpa using hb3
   refine wk 3 ?_;refine ax 60 (GD (k9 R m w h Ab t (ht.d B2) (ht.a (.inr B2)) (ht.b B2) jp jv jo hP) [jo,jv,jp,9,4] [(4,(rf 1 [[Bo 9 ((((w.bin t)).L).map RVal.cells)]])),(9,(BU 9 ((((w.bin t)).L).map RVal.cells))),(jp,(rf 4 [[.ptr 4 1 0 0,Bo jv (A5 (((w.bin t)).regs)),Bo jo ((((w.bin t)).out).map REff.cells),.int .i64 (((w.bin t)).time)]])),(jv,(BU 1 (A5 (((w.bin t)).regs)))),(jo,(BU 6 ((((w.bin t)).out).map REff.cells)))] rfl Tryz.func99 AF rfl rfl rfl ⟨⟨_,rfl,A1⟩,⟨_,rfl,A1⟩,⟨_,rfl,A1⟩,⟨_,rfl,A1⟩,⟨_,rfl,A1⟩,trivial⟩ rfl Cf ⟨⟨_,rfl,rfl,A1⟩,⟨_,rfl,rfl,A1⟩,⟨_,rfl,rfl,A1⟩,⟨_,rfl,rfl,A1⟩,⟨_,rfl,rfl,A1⟩,trivial⟩ rfl) ?_;refine an ?_;refine⟨[],trivial,rfl,?_⟩;rw[kH ho];exact Tg
  refine wk 6 ?_;refine asp 61 (fun hb4=>?_) fun hb4=>?_
  .
   refine Ba ?_;have ho:t.op=4:=by simpa using hb4
   have hxd:=h.at (ht.d B2);refine wk 18 ?_;refine dx 80 (GD (Ju w.L Ab ⟨4,0,0,0,0,0,t.base,w.time,0⟩) [9,4] [(4,(rf 1 [[Bo 9 (((Cd w.L ⟨4,0,0,0,0,0,t.base,w.time,0⟩).2).map RVal.cells)]])),(9,(BU 9 (((Cd w.L ⟨4,0,0,0,0,0,t.base,w.time,0⟩).2).map RVal.cells)))] rfl Tryz.func70 AF rfl rfl rfl ⟨⟨_,rfl,A1⟩,⟨_,rfl,A1⟩,trivial⟩ rfl Cf ⟨⟨_,rfl,rfl,A1⟩,⟨_,rfl,rfl,A1⟩,trivial⟩ rfl) ?_;refine dq 81 (Bl Ah (h0:=hxd.1) (hn:=hxd.2.2.1)) ?_;refine qK8 rfl rfl (H6 Ah rfl rfl rfl rfl rfl rfl rfl Zm (CP _) rfl rfl rfl) ?_;refine wk 1 ?_;refine⟨[],trivial,rfl,?_⟩;rw[kG ho];exact uz
  refine wk 6 ?_;refine asp 82 (fun hb5=>?_) fun hb5=>?_
  .
   refine Ba ?_;have ho:t.op=5:=by simpa using hb5
   have hxa:=h.at (ht.a (.inl B2));refine wk 13 ?_;refine dq 95 (Bl Ah (h0:=hxa.1) (hn:=hxa.2.2.1)) ?_;refine dq 96 (Ao Ah rfl rfl rfl (I8 rfl (BI ⟨hxa.1,hxa.2.1⟩)) rfl) ?_;refine wk 1 ?_;refine dx 98 (GD (EZ R m w h Ab ⟨t.op,0,t.base,0,(Ai w.regs t.a),0⟩ jp jv jo hP) [jo,jv,jp,9,4] [(4,(rf 1 [[Bo 9 ((((w).eff ⟨t.op,0,t.base,0,(Ai w.regs t.a),0⟩).L).map RVal.cells)]])),(9,(BU 9 ((((w).eff ⟨t.op,0,t.base,0,(Ai w.regs t.a),0⟩).L).map RVal.cells))),(jp,(rf 4 [[.ptr 4 1 0 0,Bo jv (A5 (((w).eff ⟨t.op,0,t.base,0,(Ai w.regs t.a),0⟩).regs)),Bo jo ((((w).eff ⟨t.op,0,t.base,0,(Ai w.regs t.a),0⟩).out).map REff.cells),.int .i64 (((w).eff ⟨t.op,0,t.base,0,(Ai w.regs t.a),0⟩).time)]])),(jv,(BU 1 (A5 (((w).eff ⟨t.op,0,t.base,0,(Ai w.regs t.a),0⟩).regs)))),(jo,(BU 6 ((((w).eff ⟨t.op,0,t.base,0,(Ai w.regs t.a),0⟩).out).map REff.cells)))] rfl Tryz.func100 AF rfl rfl rfl ⟨⟨_,rfl,A1⟩,⟨_,rfl,A1⟩,⟨_,rfl,A1⟩,⟨_,rfl,A1⟩,⟨_,rfl,A1⟩,trivial⟩ rfl Cf ⟨⟨_,rfl,rfl,A1⟩,⟨_,rfl,rfl,A1⟩,⟨_,rfl,rfl,A1⟩,⟨_,rfl,rfl,A1⟩,⟨_,rfl,rfl,A1⟩,trivial⟩ rfl) ?_
   refine wk 6 ?_;refine aq 103 (A9 (r:=.int .i64 (w.time+1)) rfl rfl rfl Tl) ?_;refine wk 4 ?_;refine⟨[],trivial,rfl,?_⟩;rw[kF ho];exact Tg
  refine wk 6 ?_;refine asp 106 (fun hb6=>?_) fun hb6=>?_
  .
   refine Ba ?_;have ho:t.op=6:=by simpa using hb6
   have hxd:=h.at (ht.d B2);have hxa:=h.at (ht.a (.inl B2));refine wk 15 ?_;refine dq 121 (Bl Ah (h0:=hxa.1) (hn:=hxa.2.2.1)) ?_;refine dq 122 (Ao Ah rfl rfl rfl (I8 rfl (BI ⟨hxa.1,hxa.2.1⟩)) rfl) ?_;refine wk 1 ?_;refine dx 124 (GD (EZ R m w h Ab ⟨t.op,0,t.base,t.size,(Ai w.regs t.a),0⟩ jp jv jo hP) [jo,jv,jp,9,4] [(4,(rf 1 [[Bo 9 ((((w).eff ⟨t.op,0,t.base,t.size,(Ai w.regs t.a),0⟩).L).map RVal.cells)]])),(9,(BU 9 ((((w).eff ⟨t.op,0,t.base,t.size,(Ai w.regs t.a),0⟩).L).map RVal.cells))),(jp,(rf 4 [[.ptr 4 1 0 0,Bo jv (A5 (((w).eff ⟨t.op,0,t.base,t.size,(Ai w.regs t.a),0⟩).regs)),Bo jo ((((w).eff ⟨t.op,0,t.base,t.size,(Ai w.regs t.a),0⟩).out).map REff.cells),.int .i64 (((w).eff ⟨t.op,0,t.base,t.size,(Ai w.regs t.a),0⟩).time)]])),(jv,(BU 1 (A5 (((w).eff ⟨t.op,0,t.base,t.size,(Ai w.regs t.a),0⟩).regs)))),(jo,(BU 6 ((((w).eff ⟨t.op,0,t.base,t.size,(Ai w.regs t.a),0⟩).out).map REff.cells)))] rfl Tryz.func100 AF rfl rfl rfl ⟨⟨_,rfl,A1⟩,⟨_,rfl,A1⟩,⟨_,rfl,A1⟩,⟨_,rfl,A1⟩,⟨_,rfl,A1⟩,trivial⟩ rfl Cf ⟨⟨_,rfl,rfl,A1⟩,⟨_,rfl,rfl,A1⟩,⟨_,rfl,rfl,A1⟩,⟨_,rfl,rfl,A1⟩,⟨_,rfl,rfl,A1⟩,trivial⟩ rfl) ?_
   refine wk 15 ?_;refine dx 137 (GD (Ju w.L Ab (I4 w.out.length)) [9,4] [(4,(rf 1 [[Bo 9 (((Cd w.L (I4 w.out.length)).2).map RVal.cells)]])),(9,(BU 9 (((Cd w.L (I4 w.out.length)).2).map RVal.cells)))] rfl Tryz.func70 AF rfl rfl rfl ⟨⟨_,rfl,A1⟩,⟨_,rfl,A1⟩,trivial⟩ rfl Cf ⟨⟨_,rfl,rfl,A1⟩,⟨_,rfl,rfl,A1⟩,trivial⟩ rfl) ?_;refine dq 138 (Bl Ah (h0:=hxd.1) (hn:=hxd.2.2.1)) ?_;refine qK8 rfl rfl (H6 Ah rfl rfl rfl rfl rfl rfl rfl Zm (CP _) rfl rfl rfl) ?_;refine wk 1 ?_;refine⟨[],trivial,rfl,?_⟩;rw[kE ho];exact(qJ5 (qJ5 (qJ5 (qJ5 (qJ5 (qJ6 _) rfl) rfl) (by show _=some (rf 4 [[.ptr 4 1 0 0,Bo jv (A5 (A4 w.regs t.d _)),Bo jo ((w.eff ⟨t.op,0,t.base,t.size,(Ai w.regs t.a),0⟩).out.map REff.cells),.int .i64 w.time]]);rw[MF];rfl)) jl) rfl)
  refine wk 6 ?_;refine asp 139 (fun hb7=>?_) fun hb7=>?_
  .
   refine Ba ?_;have ho:t.op=7:=by simpa using hb7
   have hxa:=h.at (ht.a (.inr B2));have hxb:=h.at (ht.b B2);refine wk 15 ?_;refine dq 154 (Bl Ah (h0:=hxa.1) (hn:=hxa.2.2.1)) ?_;refine dq 155 (Ao Ah rfl rfl rfl (I8 rfl (BI ⟨hxa.1,hxa.2.1⟩)) rfl) ?_;refine wk 6 ?_;refine dq 162 (Bl Ah (h0:=hxb.1) (hn:=hxb.2.2.1)) ?_;refine dq 163 (Ao Ah rfl rfl rfl (I8 rfl (BI ⟨hxb.1,hxb.2.1⟩)) rfl) ?_;refine wk 1 ?_;refine dx 165 (GD (EZ R m w h Ab ⟨t.op,0,t.base,t.size,(Ai w.regs t.a),(Ai w.regs t.b)⟩ jp jv jo hP) [jo,jv,jp,9,4] [(4,(rf 1 [[Bo 9 ((((w).eff ⟨t.op,0,t.base,t.size,(Ai w.regs t.a),(Ai w.regs t.b)⟩).L).map RVal.cells)]])),(9,(BU 9 ((((w).eff ⟨t.op,0,t.base,t.size,(Ai w.regs t.a),(Ai w.regs t.b)⟩).L).map RVal.cells))),(jp,(rf 4 [[.ptr 4 1 0 0,Bo jv (A5 (((w).eff ⟨t.op,0,t.base,t.size,(Ai w.regs t.a),(Ai w.regs t.b)⟩).regs)),Bo jo ((((w).eff ⟨t.op,0,t.base,t.size,(Ai w.regs t.a),(Ai w.regs t.b)⟩).out).map REff.cells),.int .i64 (((w).eff ⟨t.op,0,t.base,t.size,(Ai w.regs t.a),(Ai w.regs t.b)⟩).time)]])),(jv,(BU 1 (A5 (((w).eff ⟨t.op,0,t.base,t.size,(Ai w.regs t.a),(Ai w.regs t.b)⟩).regs)))),(jo,(BU 6 ((((w).eff ⟨t.op,0,t.base,t.size,(Ai w.regs t.a),(Ai w.regs t.b)⟩).out).map REff.cells)))] rfl Tryz.func100 AF rfl rfl rfl ⟨⟨_,rfl,A1⟩,⟨_,rfl,A1⟩,⟨_,rfl,A1⟩,⟨_,rfl,A1⟩,⟨_,rfl,A1⟩,trivial⟩ rfl Cf ⟨⟨_,rfl,rfl,A1⟩,⟨_,rfl,rfl,A1⟩,⟨_,rfl,rfl,A1⟩,⟨_,rfl,rfl,A1⟩,⟨_,rfl,rfl,A1⟩,trivial⟩ rfl) ?_
   refine wk 6 ?_;refine aq 170 (A9 (r:=.int .i64 (w.time+1)) rfl rfl rfl Tl) ?_;refine wk 4 ?_;refine⟨[],trivial,rfl,?_⟩;rw[kC ho];exact Tg
  refine wk 6 ?_;refine asp 173 (fun hb8=>?_) fun hb8=>?_
  .
   refine Ba ?_;have ho:t.op=8:=by simpa using hb8
   have hxd:=h.at (ht.d B2);refine wk 6 ?_;refine ax 179 (GD (EZ R m w h Ab ⟨t.op,0,0,0,0,0⟩ jp jv jo hP) [jo,jv,jp,9,4] [(4,(rf 1 [[Bo 9 ((((w).eff ⟨t.op,0,0,0,0,0⟩).L).map RVal.cells)]])),(9,(BU 9 ((((w).eff ⟨t.op,0,0,0,0,0⟩).L).map RVal.cells))),(jp,(rf 4 [[.ptr 4 1 0 0,Bo jv (A5 (((w).eff ⟨t.op,0,0,0,0,0⟩).regs)),Bo jo ((((w).eff ⟨t.op,0,0,0,0,0⟩).out).map REff.cells),.int .i64 (((w).eff ⟨t.op,0,0,0,0,0⟩).time)]])),(jv,(BU 1 (A5 (((w).eff ⟨t.op,0,0,0,0,0⟩).regs)))),(jo,(BU 6 ((((w).eff ⟨t.op,0,0,0,0,0⟩).out).map REff.cells)))] rfl Tryz.func100 AF rfl rfl rfl ⟨⟨_,rfl,A1⟩,⟨_,rfl,A1⟩,⟨_,rfl,A1⟩,⟨_,rfl,A1⟩,⟨_,rfl,A1⟩,trivial⟩ rfl Cf ⟨⟨_,rfl,rfl,A1⟩,⟨_,rfl,rfl,A1⟩,⟨_,rfl,rfl,A1⟩,⟨_,rfl,rfl,A1⟩,⟨_,rfl,rfl,A1⟩,trivial⟩ rfl) ?_;refine wk 15 ?_;refine dx 192 (GD (Ju w.L Ab (I4 w.out.length)) [9,4] [(4,(rf 1 [[Bo 9 (((Cd w.L (I4 w.out.length)).2).map RVal.cells)]])),(9,(BU 9 (((Cd w.L (I4 w.out.length)).2).map RVal.cells)))] rfl Tryz.func70 AF rfl rfl rfl ⟨⟨_,rfl,A1⟩,⟨_,rfl,A1⟩,trivial⟩ rfl Cf ⟨⟨_,rfl,rfl,A1⟩,⟨_,rfl,rfl,A1⟩,trivial⟩ rfl) ?_
   refine dq 193 (Bl Ah (h0:=hxd.1) (hn:=hxd.2.2.1)) ?_;refine qK8 rfl rfl (H6 Ah rfl rfl rfl rfl rfl rfl rfl Zm (CP _) rfl rfl rfl) ?_;refine wk 1 ?_;refine⟨[],trivial,rfl,?_⟩;rw[kB ho];exact(qJ5 (qJ5 (qJ5 (qJ5 (qJ5 (qJ6 _) rfl) rfl) (by show _=some (rf 4 [[.ptr 4 1 0 0,Bo jv (A5 (A4 w.regs t.d _)),Bo jo ((w.eff ⟨t.op,0,0,0,0,0⟩).out.map REff.cells),.int .i64 w.time]]);rw[MF];rfl)) jl) rfl)
  refine wk 6 ?_;refine asp 194 (fun hb9=>?_) fun hb9=>?_
  .
   refine Ba ?_;have ho:t.op=9:=by simpa using hb9
   have hxa:=h.at (ht.a (.inl B2));refine wk 10 ?_;refine dq 205 (Bl Ah (h0:=hxa.1) (hn:=hxa.2.2.1)) ?_;refine dq 206 (Ao Ah rfl rfl rfl (I8 rfl (BI ⟨hxa.1,hxa.2.1⟩)) rfl) ?_;refine wk 1 ?_;refine dx 208 (GD (EZ R m w h Ab ⟨t.op,0,0,0,(Ai w.regs t.a),0⟩ jp jv jo hP) [jo,jv,jp,9,4] [(4,(rf 1 [[Bo 9 ((((w).eff ⟨t.op,0,0,0,(Ai w.regs t.a),0⟩).L).map RVal.cells)]])),(9,(BU 9 ((((w).eff ⟨t.op,0,0,0,(Ai w.regs t.a),0⟩).L).map RVal.cells))),(jp,(rf 4 [[.ptr 4 1 0 0,Bo jv (A5 (((w).eff ⟨t.op,0,0,0,(Ai w.regs t.a),0⟩).regs)),Bo jo ((((w).eff ⟨t.op,0,0,0,(Ai w.regs t.a),0⟩).out).map REff.cells),.int .i64 (((w).eff ⟨t.op,0,0,0,(Ai w.regs t.a),0⟩).time)]])),(jv,(BU 1 (A5 (((w).eff ⟨t.op,0,0,0,(Ai w.regs t.a),0⟩).regs)))),(jo,(BU 6 ((((w).eff ⟨t.op,0,0,0,(Ai w.regs t.a),0⟩).out).map REff.cells)))] rfl Tryz.func100 AF rfl rfl rfl ⟨⟨_,rfl,A1⟩,⟨_,rfl,A1⟩,⟨_,rfl,A1⟩,⟨_,rfl,A1⟩,⟨_,rfl,A1⟩,trivial⟩ rfl Cf ⟨⟨_,rfl,rfl,A1⟩,⟨_,rfl,rfl,A1⟩,⟨_,rfl,rfl,A1⟩,⟨_,rfl,rfl,A1⟩,⟨_,rfl,rfl,A1⟩,trivial⟩ rfl) ?_
   refine wk 1 ?_;refine⟨[],trivial,rfl,?_⟩;rw[kA ho];exact Tg
  refine wk 9 ?_;refine ax 14 (GD (EZ R m w h Ab ⟨t.op,0,t.base,0,0,0⟩ jp jv jo hP) [jo,jv,jp,9,4] [(4,(rf 1 [[Bo 9 ((((w).eff ⟨t.op,0,t.base,0,0,0⟩).L).map RVal.cells)]])),(9,(BU 9 ((((w).eff ⟨t.op,0,t.base,0,0,0⟩).L).map RVal.cells))),(jp,(rf 4 [[.ptr 4 1 0 0,Bo jv (A5 (((w).eff ⟨t.op,0,t.base,0,0,0⟩).regs)),Bo jo ((((w).eff ⟨t.op,0,t.base,0,0,0⟩).out).map REff.cells),.int .i64 (((w).eff ⟨t.op,0,t.base,0,0,0⟩).time)]])),(jv,(BU 1 (A5 (((w).eff ⟨t.op,0,t.base,0,0,0⟩).regs)))),(jo,(BU 6 ((((w).eff ⟨t.op,0,t.base,0,0,0⟩).out).map REff.cells)))] rfl Tryz.func100 AF rfl rfl rfl ⟨⟨_,rfl,A1⟩,⟨_,rfl,A1⟩,⟨_,rfl,A1⟩,⟨_,rfl,A1⟩,⟨_,rfl,A1⟩,trivial⟩ rfl Cf ⟨⟨_,rfl,rfl,A1⟩,⟨_,rfl,rfl,A1⟩,⟨_,rfl,rfl,A1⟩,⟨_,rfl,rfl,A1⟩,⟨_,rfl,rfl,A1⟩,trivial⟩ rfl) ?_;refine wk 6 ?_;refine aq 19 (A9 (r:=.int .i64 (w.time+1)) rfl rfl rfl Tl) ?_;refine wk 4 ?_;refine⟨[],trivial,rfl,?_⟩
  rw[kK hb1 hb2 hb3 hb4 hb5 hb6 hb7 hb8 hb9];exact Tg
theorem Pd(R m:Nat)(L:List RVal)(regs:List Int)(b:Block)(h:ROk R m ⟨L,regs,[],0⟩)(hl:∀t∈b.ins,Kb t R)(hm:m+2*b.ins.length<=80000):∀jp jv jo:Nat,WD jp jv jo->Ca Tryz.prog 71 [.ptr 4 1 0 0,.agg b.cells,Bo jv (A5 regs)] (Af (Af (Af (Af (Af hNew 4 (rf 1 [[Bo 9 ((L).map RVal.cells)]])) 9 (BU 9 ((L).map RVal.cells))) jv (BU 1 (A5 regs))) jp .free) jo .free) (.ptr jp 1 0 0) (wH jp jv jo hNone ((Im L regs b.ins))):=by
 refine t3 ?_ ?_;all_goals
  intro jp jv jo;have hP:WD jp jv jo:=by first|exact .a|exact .b
  refine qK4 (n:=28) Ah Tryz.func71 rfl rfl ?_;refine FL ?_;refine ax 4 (CC 5 12) ?_;refine wk 6 ?_;refine aq 11 (M5 Ah (ps:=[(0,.ptr 4 1 0 0),(1,Bo jv (A5 regs))]) (r:=[.ptr 4 1 0 0,Bo jv (A5 regs),.nil,.int .i64 0]) rfl rfl rfl rfl rfl Al (by simp only[G5,Cx];rfl) rfl (by simp only[Fj,Cx];rfl)) ?_;refine ax 12 (t5 (sz:=4) jp rfl rfl rfl rfl (q68 _) (by simp only[AV.cells,qQ1,qX7,CL];rfl)) ?_;refine wk 4 ?_;refine qJ0 (.weakRowF jp (es':=[[.ptr 4 1 0 0,Bo jv (A5 regs),.lst true [],.int .i64 0]]) rfl rfl Vn) ?_;refine wk 4 ?_;refine Ap (γ:=Nat) 13 (fun k=>⟨28,(Aa (Aa (Aa AU 4 (pZ 12)) 7 (pZ jp)) 8 (iN k)),(wH jp jv jo (Af (A0 13) 12 (rf 5 [b.cells])) ((Im L regs (b.ins.take (k)))))⟩) (fun k=>k<=b.ins.length) (fun k=>b.ins.length-k) 0 (qJ1 Cq B5) (qZ1 _) (fun _=>Ac (Ac (Ac (Ac (B9) rfl) rfl) rfl) rfl) ?_
  intro k hk;refine wk 9 ?_;refine asp 17 (fun hb1=>?_) fun hb1=>?_
  .
   refine Ba ?_;have hkl:k<b.ins.length:=by have h:=hb1;simp only[q76,q56]at h;omega
   obtain⟨t,ht⟩:=Ad hkl;refine wk 8 ?_;refine aq 24 (En Ah (Au ht)) ?_;refine wk 1 ?_;refine ax 26 (GD (fq R _ (Im L regs (b.ins.take (k))) (kM h hl k) hm t (hl t (q33 ht)) jp jv jo hP) [jo,jv,jp,9,4] [(4,(rf 1 [[Bo 9 (((((Im L regs (b.ins.take (k))).step t)).L).map RVal.cells)]])),(9,(BU 9 (((((Im L regs (b.ins.take (k))).step t)).L).map RVal.cells))),(jp,(rf 4 [[.ptr 4 1 0 0,Bo jv (A5 ((((Im L regs (b.ins.take (k))).step t)).regs)),Bo jo (((((Im L regs (b.ins.take (k))).step t)).out).map REff.cells),.int .i64 ((((Im L regs (b.ins.take (k))).step t)).time)]])),(jv,(BU 1 (A5 ((((Im L regs (b.ins.take (k))).step t)).regs)))),(jo,(BU 6 (((((Im L regs (b.ins.take (k))).step t)).out).map REff.cells)))] rfl Tryz.func92 AF rfl rfl rfl ⟨⟨_,rfl,A1⟩,⟨_,rfl,A1⟩,⟨_,rfl,A1⟩,⟨_,rfl,A1⟩,⟨_,rfl,A1⟩,trivial⟩ rfl Cf ⟨⟨_,rfl,rfl,A1⟩,⟨_,rfl,rfl,A1⟩,⟨_,rfl,rfl,A1⟩,⟨_,rfl,rfl,A1⟩,⟨_,rfl,rfl,A1⟩,trivial⟩ rfl) ?_
   refine wk 3 ?_;refine aq 19 (AS rfl rfl hkl (show b.ins.length<=maxLen by simp only[maxLen];omega)) ?_;refine wk 2 ?_;exact⟨k+1,qV1 D5 (by repeat(first|exact qJ8 _ _|exact qV0 _ _|refine qJ9 ?_ (by first|rfl|(rw[fC ht];rfl)) rfl A1)),hkl,by omega⟩
  refine Bg ?_;have hge:b.ins.length<=k:=by have h:=hb1;simp only[q76,q16]at h;omega
  rw[kN hge];refine wk 7 ?_;refine⟨[_],⟨rfl,trivial⟩,rfl,?_⟩;exact Tg
theorem fK(old new:BFunc)(x y:Block)(R:Nat)(c:Cert)(i:Int)(next:List Int)(hreg:old.regs=(R:Int))(hR:R<=10000)(hx:old.blocks[i.toNat]?=some x)(hy:new.blocks[i.toNat]?=some y)(hc:∀r∈c.same,r.length=R)(hi:0<=i/\i<c.same.length)(hnx:∀k∈next,0<=k/\k<c.same.length)(hv:x.fin=2->(0<=x.v/\x.v<R)/\(0<=y.v/\y.v<R))(htx:∀t∈x.ins,Kb t R)(hty:∀t∈y.ins,Kb t R)(hlx:x.ins.length<=10000)(hly:y.ins.length<=10000)(hnl:next.length<=100000):Pu Tryz.prog 51 [.agg old.cells,.agg new.cells,.agg c.cells,.int .i64 i,AI next] (.bool (Ht R x y c i next)):=by
 obtain⟨row,hrow⟩:=Ad (l:=c.same) (k:=i.toNat) Ab;have hat:c.at' i=row:=by unfold Cert.at';rw[hrow];rfl
 have hrl:=hc row (q33 hrow);have hoa:ROk R (2*R+2*x.ins.length) (Ck R (c.at' i) x):=VJ (tX (c.at' i) R) htx;have hob:ROk R (2*R+2*x.ins.length+2*y.ins.length) (CM R (c.at' i) x y):=VJ (tW hoa (Q0 x.ins)) hty;refine qK5 (n:=177) Ah Tryz.func51 rfl rfl ?_;refine FL ?_;refine ax 5 (CC 2 0) ?_;refine ax 6 (CC 2 1) ?_;refine ax 7 (CC 1 2) ?_;refine wk 5 ?_;refine ax 22 (CC 1 4) ?_;refine wk 3 ?_;refine qJ0 (.weakRowF 4 (es':=[[.lst true []]]) rfl rfl jF) ?_;refine wk 6 ?_;refine qJ0 (.weakSlot 12 (y:=.lst true []) rfl (fun _ _ _=>V5)) ?_;refine qJ0 (.weakSlot 13 (y:=.lst true []) rfl (fun _ _ _=>V5)) ?_;refine wk 4 ?_;refine Ap (γ:=Nat) 12 (fun k=>⟨177,(Aa (Aa (Aa (Aa (Aa (Aa (Aa (Aa (Aa AU 3 (.int .i64 i)) 4 (AI next)) 5 (pZ 0)) 6 (pZ 1)) 7 (pZ 2)) 11 (pZ 4)) 12 (Bo 5 (A5 (Bv (c.at' i) (k)).xs))) 13 (Bo 7 (A5 (Bv (c.at' i) (k)).ys))) 14 (iN k)),(Af (Af (Af (Af (Af (Af (fg (Af (Af (Af (A0 12) 0 (rf 2 [old.cells])) 1 (rf 2 [new.cells])) 2 (rf 1 [c.cells])) ((Bv (c.at' i) (k)).L)) 5 (BU 1 (A5 (Bv (c.at' i) (k)).xs))) 7 (BU 1 (A5 (Bv (c.at' i) (k)).ys))) 6 .free) 8 .free) 10 .free) 11 .free)⟩) (fun k=>k<=R) (fun k=>R-k) 0 (qJ1 uL B5) (qZ1 _) (fun _=>Ac (Ac (Ac (Ac (Ac (Ac (Ac (Ac (Ac (B9) rfl) rfl) rfl) rfl) rfl) rfl) rfl) rfl) rfl) ?_
 intro k hk;refine wk 8 ?_;refine asp 26 (fun hb1=>?_) fun hb1=>?_
 .
  refine Ba ?_;have hkl:k<R:=by have h:=hb1;rw[hreg]at h;simp only[q56]at h;omega
  obtain⟨bit,hbit⟩:=Ad (l:=row) (k:=k) Ab;refine wk 9 ?_;refine ax 33 (GD (Ju (Bv (c.at' i) (k)).L uR (RVal.reg k 0)) [9,4] [(4,(rf 1 [[Bo 9 (((Cd (Bv (c.at' i) (k)).L (RVal.reg k 0)).2).map RVal.cells)]])),(9,(BU 9 (((Cd (Bv (c.at' i) (k)).L (RVal.reg k 0)).2).map RVal.cells)))] rfl Tryz.func70 AF rfl rfl rfl ⟨⟨_,rfl,A1⟩,⟨_,rfl,A1⟩,trivial⟩ rfl Cf ⟨⟨_,rfl,rfl,A1⟩,⟨_,rfl,rfl,A1⟩,trivial⟩ rfl) ?_;refine ax 34 DB ?_;refine ax 35 (CF Ah (b:=5) (es:=A5 (Bv (c.at' i) (k)).xs) rfl rfl rfl rfl rfl rfl rfl rfl rfl rfl rfl (q68 _) (CP _) (TF _) rfl rfl (by rw[C2];have h:=(Ez (c.at' i) k).xl;show((Bv (c.at' i) (k)).xs.length+1)*8<=_;omega) (by rw[C2];have h:=(Ez (c.at' i) k).xl;simp only[maxLen];show(Bv (c.at' i) (k)).xs.length+1<=_;omega)) ?_;refine wk 12 ?_;refine aq 39 (An Ah rfl rfl rfl rfl rfl rfl hi.1 (by rw[q54,hrow];rfl) rfl) ?_
  refine wk 2 ?_;refine aq 42 (An Ah rfl rfl rfl rfl rfl rfl (q46 _) (Au hbit) rfl) ?_;refine wk 2 ?_;refine asp 43 (fun hb2=>?_) fun hb2=>?_
  .
   refine Ba ?_;have hside:Hs (c.at' i) k=0:=kr (by rw[hat];exact hbit) hb2;refine wk 9 ?_;exact xJ
  refine Bg ?_;have hside:Hs (c.at' i) k=1:=px (by rw[hat];exact hbit) hb2;refine wk 7 ?_;exact xJ
 refine Bg ?_;obtain rfl:R=k:=by have h:=hb1;rw[hreg]at h;simp only[q16]at h;omega
 refine wk 7 ?_;refine dq 56 (An Ah rfl rfl rfl rfl rfl rfl hi.1 (by rw[q54,hx];rfl) rfl) ?_;refine wk 2 ?_;refine dx 59 (GD (Pd R (2*R) (Bv (c.at' i) (R)).L (Bv (c.at' i) (R)).xs x (tX (c.at' i) R) htx Ab 6 5 10 .a) [10,6,5,9,4] [(4,(rf 1 [[Bo 9 ((((Ck R (c.at' i) x)).L).map RVal.cells)]])),(9,(BU 9 ((((Ck R (c.at' i) x)).L).map RVal.cells))),(6,(rf 4 [[.ptr 4 1 0 0,Bo 5 (A5 (((Ck R (c.at' i) x)).regs)),Bo 10 ((((Ck R (c.at' i) x)).out).map REff.cells),.int .i64 (((Ck R (c.at' i) x)).time)]])),(5,(BU 1 (A5 (((Ck R (c.at' i) x)).regs)))),(10,(BU 6 ((((Ck R (c.at' i) x)).out).map REff.cells)))] rfl Tryz.func71 AF rfl rfl (by simp only[qQ1,qX7,Cb _ (show mem [10,6,5,9,4] 5=true from rfl)];rfl) ⟨⟨_,rfl,A1⟩,⟨_,rfl,A1⟩,⟨_,rfl,A1⟩,⟨_,rfl,A1⟩,⟨_,rfl,A1⟩,trivial⟩ rfl Cf ⟨⟨_,rfl,rfl,A1⟩,⟨_,rfl,rfl,A1⟩,⟨_,rfl,rfl,A1⟩,⟨_,rfl,rfl,A1⟩,⟨_,rfl,rfl,A1⟩,trivial⟩ rfl) ?_
 refine wk 4 ?_;refine dq 64 (An Ah rfl rfl rfl rfl rfl rfl hi.1 (by rw[q54,hy];rfl) rfl) ?_;refine wk 2 ?_;refine dx 67 (GD (Pd R _ (Ck R (c.at' i) x).L (Bv (c.at' i) (R)).ys y (tW hoa (Q0 x.ins)) hty Ab 8 7 11 .b) [11,8,7,9,4] [(4,(rf 1 [[Bo 9 ((((CM R (c.at' i) x y)).L).map RVal.cells)]])),(9,(BU 9 ((((CM R (c.at' i) x y)).L).map RVal.cells))),(8,(rf 4 [[.ptr 4 1 0 0,Bo 7 (A5 (((CM R (c.at' i) x y)).regs)),Bo 11 ((((CM R (c.at' i) x y)).out).map REff.cells),.int .i64 (((CM R (c.at' i) x y)).time)]])),(7,(BU 1 (A5 (((CM R (c.at' i) x y)).regs)))),(11,(BU 6 ((((CM R (c.at' i) x y)).out).map REff.cells)))] rfl Tryz.func71 AF rfl rfl (by simp only[qQ1,qX7,Cb _ (show mem [11,8,7,9,4] 7=true from rfl)];rfl) ⟨⟨_,rfl,A1⟩,⟨_,rfl,A1⟩,⟨_,rfl,A1⟩,⟨_,rfl,A1⟩,⟨_,rfl,A1⟩,trivial⟩ rfl Cf ⟨⟨_,rfl,rfl,A1⟩,⟨_,rfl,rfl,A1⟩,⟨_,rfl,rfl,A1⟩,⟨_,rfl,rfl,A1⟩,⟨_,rfl,rfl,A1⟩,trivial⟩ rfl) ?_
 refine wk 10 ?_;refine dq 72 EU ?_;refine wk 4 ?_;refine dq 77 EU ?_;refine wk 2 ?_;refine asp 78 (fun hb3=>?_) fun hb3=>?_
 .
  refine Ba ?_;have hne:¬(Ck R (c.at' i) x).out=(CM R (c.at' i) x y).out:=fun e=>by have h:=JV hb3;rw[q76,q76,e]at h;exact h rfl
  refine wk 4 ?_;refine CE ⟨[_],⟨rfl,trivial⟩,?_,rfl⟩;refine bc ?_;exact(TW hne).symm
 refine Bg ?_;have hlen:(Ck R (c.at' i) x).out.length=(CM R (c.at' i) x y).out.length:=by have h:=HE hb3;rw[q76,q76]at h;omega
 refine wk 7 ?_;refine Ap (γ:=Nat) 12 (fun k=>⟨177,(Aa (Aa (Aa (Aa (Aa (Aa (Aa (Aa AU 3 (.int .i64 i)) 4 (AI next)) 5 (pZ 0)) 6 (pZ 1)) 7 (pZ 2)) 16 (pZ 6)) 17 (pZ 8)) 18 (iN k)),(wR 6 5 10 (wH 8 7 11 (Af (Af (Af (A0 12) 0 (rf 2 [old.cells])) 1 (rf 2 [new.cells])) 2 (rf 1 [c.cells])) ((CM R (c.at' i) x y))) (Ck R (c.at' i) x))⟩) (fun k=>k<=(Ck R (c.at' i) x).out.length/\(Ck R (c.at' i) x).out.take k=(CM R (c.at' i) x y).out.take k) (fun k=>(Ck R (c.at' i) x).out.length-k) 0 (qJ1 B4 B5) ⟨qZ1 _,rfl⟩ (fun _=>Ac (Ac (Ac (Ac (Ac (Ac (Ac (Ac (Ac (B9) rfl) rfl) rfl) rfl) rfl) rfl) rfl) rfl) rfl) ?_;intro k ⟨hk,htk⟩;refine wk 8 ?_;refine aq 84 EU ?_;refine wk 2 ?_;refine asp 85 (fun hb4=>?_) fun hb4=>?_
 .
  refine Ba ?_;have hkl:k<(Ck R (c.at' i) x).out.length:=by have h:=hb4;simp only[q76,q56]at h;omega
  obtain⟨ex,hex⟩:=Ad hkl;obtain⟨ey,hey⟩:=Ad (l:=(CM R (c.at' i) x y).out) (k:=k) Ab;refine wk 10 ?_;refine dq 93 (Bl Ah (h0:=(q46 _)) (hn:=Kf)) ?_;refine dq 94 (Ao Ah rfl rfl rfl (I8 rfl (Au hex)) rfl) ?_;refine wk 5 ?_;refine dq 100 (Bl Ah (h0:=(q46 _)) (hn:=Kf)) ?_;refine dq 101 (Ao Ah rfl rfl rfl (I8 rfl (Au hey)) rfl) ?_;refine dq 102 (E0 Ah true rfl rfl rfl AF rfl rfl rfl rfl rfl) ?_;refine wk 1 ?_;refine asp 102 (fun hb5=>?_) fun hb5=>?_
  .
   refine Ba ?_;have hne:¬ex=ey:=fB hb5;refine wk 4 ?_;refine CE ⟨[_],⟨rfl,trivial⟩,?_,rfl⟩;refine bc ?_;exact(TW (pp hex hey hne)).symm
  refine Bg ?_;obtain rfl:ex=ey:=ZX hb5;refine wk 3 ?_;refine aq 87 (AS rfl rfl hkl (show(Ck R (c.at' i) x).out.length<=maxLen by have:=hoa.el;simp only[maxLen];omega)) ?_;refine wk 2 ?_;exact⟨k+1,qV1 D5 o9,⟨hkl,MN htk hex hey⟩,by omega⟩
 refine Bg ?_;have hge:(Ck R (c.at' i) x).out.length<=k:=by have h:=hb4;simp only[q76,q16]at h;omega
 have hout:(Ck R (c.at' i) x).out=(CM R (c.at' i) x y).out:=HT htk hge Ab;refine wk 7 ?_;refine dq 106 (An Ah rfl rfl rfl rfl rfl rfl hi.1 (by rw[q54,hx];rfl) rfl) ?_;refine wk 4 ?_;refine qK9 110 rfl (fun hb6=>?_) (fun hb6=>?_)
 .
  have hf2:x.fin=2:=by simpa using hb6
  have hxo:=hoa.at (hv hf2).1;have hxn:=hob.at (hv hf2).2;refine wk 7 ?_;refine dq 118 (An Ah rfl rfl rfl rfl rfl rfl hi.1 (by rw[q54,hx];rfl) rfl) ?_;refine wk 2 ?_;refine dq 121 (Bl Ah (h0:=hxo.1) (hn:=hxo.2.2.1)) ?_;refine dq 122 (Ao Ah rfl rfl rfl (I8 rfl (BI ⟨hxo.1,hxo.2.1⟩)) rfl) ?_;refine wk 7 ?_;refine dq 130 (An Ah rfl rfl rfl rfl rfl rfl hi.1 (by rw[q54,hy];rfl) rfl) ?_;refine wk 2 ?_;refine dq 133 (Bl Ah (h0:=hxn.1) (hn:=hxn.2.2.1)) ?_;refine dq 134 (Ao Ah rfl rfl rfl (I8 rfl (BI ⟨hxn.1,hxn.2.1⟩)) rfl) ?_;refine wk 3 ?_;refine asp 136 (fun hb7=>?_) fun hb7=>?_
  .
   refine Ba ?_;have hvf:=hb7;refine wk 4 ?_;refine CE ⟨[_],⟨rfl,trivial⟩,?_,rfl⟩;refine bc ?_;exact(fA hf2 (JV hvf)).symm
  refine Bg ?_;have hvf:=hb7;refine wk 7 ?_;refine Ap (γ:=Nat) 12 (fun j=>⟨177,(Aa (Aa (Aa (Aa (Aa (Aa (Aa (Aa AU 3 (.int .i64 i)) 4 (AI next)) 5 (pZ 0)) 6 (pZ 1)) 7 (pZ 2)) 16 (pZ 6)) 17 (pZ 8)) 19 (iN j)),(wR 6 5 10 (wH 8 7 11 (Af (Af (Af (A0 12) 0 (rf 2 [old.cells])) 1 (rf 2 [new.cells])) 2 (rf 1 [c.cells])) ((CM R (c.at' i) x y))) (Ck R (c.at' i) x))⟩) (fun j=>j<=next.length/\(next.take j).all (fun k=>EM (Ck R (c.at' i) x).vw (CM R (c.at' i) x y).vw (c.at' k))=true) (fun j=>next.length-j) 0 (qJ1 B4 B5) ⟨qZ1 _,rfl⟩ (fun _=>Ac (Ac (Ac (Ac (Ac (Ac (Ac (Ac (Ac (B9) rfl) rfl) rfl) rfl) rfl) rfl) rfl) rfl) rfl) ?_;intro j ⟨hj,hall⟩;refine wk 8 ?_;refine asp 140 (fun hb8=>?_) fun hb8=>?_
  .
   refine Ba ?_;have hjl:j<next.length:=by have h:=hb8;simp only[q76,q56]at h;omega
   obtain⟨nk,hnk⟩:=Ad hjl;have hkr:=hnx nk (q33 hnk);obtain⟨row2,hrow2⟩:=Ad (l:=c.same) (k:=nk.toNat) Ab;have hat2:c.at' nk=row2:=by unfold Cert.at';rw[hrow2];rfl
   have hrl2:=hc row2 (q33 hrow2);refine wk 8 ?_;refine Ap (γ:=Nat) 12 (fun k=>⟨177,(Aa (Aa (Aa (Aa (Aa (Aa (Aa (Aa (Aa AU 3 (.int .i64 i)) 4 (AI next)) 5 (pZ 0)) 6 (pZ 1)) 7 (pZ 2)) 16 (pZ 6)) 17 (pZ 8)) 19 (iN j)) 20 (iN k)),(wR 6 5 10 (wH 8 7 11 (Af (Af (Af (A0 12) 0 (rf 2 [old.cells])) 1 (rf 2 [new.cells])) 2 (rf 1 [c.cells])) ((CM R (c.at' i) x y))) (Ck R (c.at' i) x))⟩) (fun k=>k<=R/\G1 (Ck R (c.at' i) x).vw (CM R (c.at' i) x y).vw row2 k) (fun k=>R-k) 0 (qJ1 B4 B5) ⟨qZ1 _,vagree_zero⟩ (fun _=>Ac (Ac (Ac (Ac (Ac (Ac (Ac (Ac (Ac (B9) rfl) rfl) rfl) rfl) rfl) rfl) rfl) rfl) rfl) ?_;intro k ⟨hk,hagr⟩;refine wk 8 ?_;refine asp 146 (fun hb9=>?_) fun hb9=>?_
   .
    refine Ba ?_;have hkl:k<R:=by have h:=hb9;rw[hreg]at h;simp only[q56]at h;omega
    refine wk 9 ?_;refine dq 153 (An Ah rfl rfl rfl rfl rfl rfl (q46 _) (Au hnk) rfl) ?_;refine wk 1 ?_;refine dq 155 (An Ah rfl rfl rfl rfl rfl rfl hkr.1 cb rfl) ?_;refine wk 2 ?_;obtain⟨must,hmu⟩:=Ad (l:=row2) (k:=k) Ab;refine dq 158 (An Ah rfl rfl rfl rfl rfl rfl (q46 _) (Au hmu) rfl) ?_;refine wk 2 ?_;refine qK9 160 rfl (fun hb10=>?_) (fun hb10=>?_)
    .
     have hmt:must=true:=by simpa using hb10
     have hxv:=hoa.at (z:=(k:Int)) Ab;have hyv:=hob.at (z:=(k:Int)) Ab;refine wk 5 ?_;refine dq 166 (Bl Ah (h0:=hxv.1) (hn:=hxv.2.2.1)) ?_;refine dq 167 (Ao Ah rfl rfl rfl (I8 rfl (BI ⟨hxv.1,hxv.2.1⟩)) rfl) ?_;refine wk 5 ?_;refine dq 173 (Bl Ah (h0:=hyv.1) (hn:=hyv.2.2.1)) ?_;refine dq 174 (Ao Ah rfl rfl rfl (I8 rfl (BI ⟨hyv.1,hyv.2.1⟩)) rfl) ?_;refine wk 3 ?_;refine asp 176 (fun hb11=>?_) fun hb11=>?_
     .
      refine Ba ?_;have hag:=hb11;exact sC
     refine Bg ?_;have hag:=hb11;exact oT
    refine wk 18 ?_;have hag:=hb10;exact oT
   refine Bg ?_;have hkge:row2.length<=k:=by have h:=hb9;rw[hreg]at h;simp only[q16]at h;omega
   exact w9
  refine Bg ?_;have hjge:next.length<=j:=by have h:=hb8;simp only[q76,q16]at h;omega
  exact sT
 refine wk 28 ?_;have hvf:=hb6;refine wk 7 ?_;refine Ap (γ:=Nat) 12 (fun j=>⟨177,(Aa (Aa (Aa (Aa (Aa (Aa (Aa (Aa AU 3 (.int .i64 i)) 4 (AI next)) 5 (pZ 0)) 6 (pZ 1)) 7 (pZ 2)) 16 (pZ 6)) 17 (pZ 8)) 19 (iN j)),(wR 6 5 10 (wH 8 7 11 (Af (Af (Af (A0 12) 0 (rf 2 [old.cells])) 1 (rf 2 [new.cells])) 2 (rf 1 [c.cells])) ((CM R (c.at' i) x y))) (Ck R (c.at' i) x))⟩) (fun j=>j<=next.length/\(next.take j).all (fun k=>EM (Ck R (c.at' i) x).vw (CM R (c.at' i) x y).vw (c.at' k))=true) (fun j=>next.length-j) 0 (qJ1 B4 B5) ⟨qZ1 _,rfl⟩ (fun _=>Ac (Ac (Ac (Ac (Ac (Ac (Ac (Ac (Ac (B9) rfl) rfl) rfl) rfl) rfl) rfl) rfl) rfl) rfl) ?_;intro j ⟨hj,hall⟩;refine wk 8 ?_;refine asp 140 (fun hb12=>?_) fun hb12=>?_
 .
  refine Ba ?_;have hjl:j<next.length:=by have h:=hb12;simp only[q76,q56]at h;omega
  obtain⟨nk,hnk⟩:=Ad hjl;have hkr:=hnx nk (q33 hnk);obtain⟨row2,hrow2⟩:=Ad (l:=c.same) (k:=nk.toNat) Ab;have hat2:c.at' nk=row2:=by unfold Cert.at';rw[hrow2];rfl
  have hrl2:=hc row2 (q33 hrow2);refine wk 8 ?_;refine Ap (γ:=Nat) 12 (fun k=>⟨177,(Aa (Aa (Aa (Aa (Aa (Aa (Aa (Aa (Aa AU 3 (.int .i64 i)) 4 (AI next)) 5 (pZ 0)) 6 (pZ 1)) 7 (pZ 2)) 16 (pZ 6)) 17 (pZ 8)) 19 (iN j)) 20 (iN k)),(wR 6 5 10 (wH 8 7 11 (Af (Af (Af (A0 12) 0 (rf 2 [old.cells])) 1 (rf 2 [new.cells])) 2 (rf 1 [c.cells])) ((CM R (c.at' i) x y))) (Ck R (c.at' i) x))⟩) (fun k=>k<=R/\G1 (Ck R (c.at' i) x).vw (CM R (c.at' i) x y).vw row2 k) (fun k=>R-k) 0 (qJ1 B4 B5) ⟨qZ1 _,vagree_zero⟩ (fun _=>Ac (Ac (Ac (Ac (Ac (Ac (Ac (Ac (Ac (B9) rfl) rfl) rfl) rfl) rfl) rfl) rfl) rfl) rfl) ?_;intro k ⟨hk,hagr⟩;refine wk 8 ?_;refine asp 146 (fun hb13=>?_) fun hb13=>?_
  .
   refine Ba ?_;have hkl:k<R:=by have h:=hb13;rw[hreg]at h;simp only[q56]at h;omega
   refine wk 9 ?_;refine dq 153 (An Ah rfl rfl rfl rfl rfl rfl (q46 _) (Au hnk) rfl) ?_;refine wk 1 ?_;refine dq 155 (An Ah rfl rfl rfl rfl rfl rfl hkr.1 cb rfl) ?_;refine wk 2 ?_;obtain⟨must,hmu⟩:=Ad (l:=row2) (k:=k) Ab;refine dq 158 (An Ah rfl rfl rfl rfl rfl rfl (q46 _) (Au hmu) rfl) ?_;refine wk 2 ?_;refine qK9 160 rfl (fun hb14=>?_) (fun hb14=>?_)
   .
    have hmt:must=true:=by simpa using hb14
    have hxv:=hoa.at (z:=(k:Int)) Ab;have hyv:=hob.at (z:=(k:Int)) Ab;refine wk 5 ?_;refine dq 166 (Bl Ah (h0:=hxv.1) (hn:=hxv.2.2.1)) ?_;refine dq 167 (Ao Ah rfl rfl rfl (I8 rfl (BI ⟨hxv.1,hxv.2.1⟩)) rfl) ?_;refine wk 5 ?_;refine dq 173 (Bl Ah (h0:=hyv.1) (hn:=hyv.2.2.1)) ?_;refine dq 174 (Ao Ah rfl rfl rfl (I8 rfl (BI ⟨hyv.1,hyv.2.1⟩)) rfl) ?_;refine wk 3 ?_;refine asp 176 (fun hb15=>?_) fun hb15=>?_
    .
     refine Ba ?_;have hag:=hb15;exact sC
    refine Bg ?_;have hag:=hb15;exact oT
   refine wk 18 ?_;have hag:=hb14;exact oT
  refine Bg ?_;have hkge:row2.length<=k:=by have h:=hb13;rw[hreg]at h;simp only[q16]at h;omega
  exact w9
 refine Bg ?_;have hjge:next.length<=j:=by have h:=hb12;simp only[q76,q16]at h;omega
 exact sT
theorem fw(old new:BFunc)(hno:old.blocks.length<=10000)(hnn:new.blocks.length<=10000)(hio:∀x∈old.blocks,x.ins.length<=10000/\GL x.ins)(hin:∀x∈new.blocks,x.ins.length<=10000/\GL x.ins):Pu Tryz.prog 48 [.agg old.cells,.agg new.cells] (.bool (vshaped old new)):=by
 refine qK5 (n:=68) Ah Tryz.func48 rfl rfl ?_;refine FL ?_;refine ax 2 (CC 2 0) ?_;refine ax 3 (CC 2 1) ?_;refine wk 6 ?_;refine ax 9 (Cn Tryz.func69 (mC old Ab (fun x hx=>by have:=(hio x hx).1;omega))) ?_;refine wk 2 ?_;refine BM 11 (fun hb1=>?_) fun hb1=>?_
 .
  refine wk 26 ?_;exact WR
 refine wk 1 ?_;refine ax 13 (Cn Tryz.func69 (mC new Ab (fun x hx=>by have:=(hin x hx).1;omega))) ?_;refine wk 3 ?_;refine BM 16 (fun hb2=>?_) fun hb2=>?_
 .
  refine wk 21 ?_;exact WR
 refine wk 7 ?_;refine BM 23 (fun hb3=>?_) fun hb3=>?_
 .
  refine wk 14 ?_;exact WR
 refine wk 9 ?_;refine asp 31 (fun hb4=>?_) fun hb4=>?_
 .
  refine wk 5 ?_;exact WR
 refine Bg ?_;have hlen:=dj BR;refine wk 7 ?_;refine Ap (γ:=Nat) 2 (fun k=>⟨68,(Aa (Aa (Aa AU 2 (pZ 0)) 3 (pZ 1)) 5 (iN k)),(Af (Af (A0 2) 0 (rf 2 [old.cells])) 1 (rf 2 [new.cells]))⟩) (fun k=>k<=old.blocks.length/\((old.blocks.zip new.blocks).take k).all (fun p=>EW p.1 p.2)=true) (fun k=>old.blocks.length-k) 0 (qJ1 Cq B5) ⟨qZ1 _,rfl⟩ (fun _=>B9) ?_;intro k ⟨hk,hall⟩;refine wk 9 ?_;refine asp 36 (fun hb5=>?_) fun hb5=>?_
 .
  refine Ba ?_;have hkl:k<old.blocks.length:=by simpa using hb5
  obtain⟨x,hx⟩:=Ad hkl;obtain⟨y,hy⟩:=Ad (l:=new.blocks) (k:=k) Ab;refine wk 8 ?_;refine dq 42 (En Ah (Au hx)) ?_;refine wk 4 ?_;refine dq 47 (En Ah (Au hy)) ?_;refine wk 1 ?_;refine dx 6 (DA Ah 2) ?_;refine dx 7 (DA Ah 3) ?_;refine wk 11 ?_;refine BM 54 (fun hb6=>?_) fun hb6=>?_
  .
   refine wk 19 ?_;exact d6
  refine wk 7 ?_;refine BM 61 (fun hb7=>?_) fun hb7=>?_
  .
   refine wk 12 ?_;exact d6
  refine wk 7 ?_;refine asp 67 (fun hb8=>?_) fun hb8=>?_
  .
   refine wk 5 ?_;exact d6
  refine wk 4 ?_;refine aq 38 (AS rfl rfl hkl (show old.blocks.length<=maxLen by simp only[maxLen];omega)) ?_;exact wV
 exact tn
theorem ft(f:BFunc)(c:Cert)(hcl:c.same.length<=2000000):Pu Tryz.prog 49 [.agg f.cells,.agg c.cells] (.bool (EX f c)):=by
 refine qK5 (n:=29) Ah Tryz.func49 rfl rfl ?_;refine FL ?_;refine ax 2 (CC 2 0) ?_;refine ax 3 (CC 1 1) ?_;refine wk 13 ?_;refine asp 12 (fun hb1=>?_) fun hb1=>?_
 .
  refine Ba ?_;have hne:=hb1;refine wk 4 ?_;refine CE ⟨[_],⟨rfl,trivial⟩,?_,rfl⟩;refine bc ?_;exact(ZW hne).symm
 refine Bg ?_;have hcl2:=YO (old:=f) (c:=c) hb1;refine wk 7 ?_;refine Ap (γ:=Nat) 2 (fun j=>⟨29,(Aa (Aa (Aa AU 2 (pZ 0)) 3 (pZ 1)) 5 (iN j)),(Af (Af (A0 2) 0 (rf 2 [f.cells])) 1 (rf 1 [c.cells]))⟩) (fun j=>j<=c.same.length/\(c.same.take j).all (fun r=>decide ((r.length:Int)=f.regs))=true) (fun j=>c.same.length-j) 0 (qJ1 Cq B5) ⟨qZ1 _,rfl⟩ (fun _=>B9) ?_;intro j ⟨hj,hall⟩;refine wk 9 ?_;refine asp 17 (fun hb2=>?_) fun hb2=>?_
 .
  refine Ba ?_;have hjl:j<c.same.length:=by have h:=hb2;simp only[q76,q56]at h;omega
  obtain⟨r,hr⟩:=Ad hjl;refine wk 8 ?_;refine dq 23 (En Ah (Au hr)) ?_;refine wk 6 ?_;refine asp 28 (fun hb3=>?_) fun hb3=>?_
  .
   refine Ba ?_;have hbad:¬(r.length:Int)=f.regs:=by have h:=JV hb3;rw[q76]at h;exact h
   refine wk 4 ?_;refine CE ⟨[_],⟨rfl,trivial⟩,?_,rfl⟩;refine bc ?_;exact(ZV hr hbad).symm
  refine Bg ?_;have heq:(r.length:Int)=f.regs:=by have h:=HE hb3;rw[q76]at h;exact h
  refine wk 3 ?_;refine aq 19 (AS rfl rfl hjl (show c.same.length<=maxLen by simp only[maxLen];omega)) ?_;exact tL
 refine Bg ?_;have hjge:c.same.length<=j:=by have h:=hb2;simp only[q76,q16]at h;omega
 refine wk 5 ?_;refine CE ⟨[_],⟨rfl,trivial⟩,?_,rfl⟩;refine bc ?_;exact(ZU hcl2 (CJ hall hjge)).symm
theorem fJ(old new:BFunc)(hno:old.blocks.length<=10000)(hnn:new.blocks.length<=10000)(hio:∀x∈old.blocks,x.ins.length<=10000/\GL x.ins)(hin:∀x∈new.blocks,x.ins.length<=10000/\GL x.ins)(c:Cert)(hcl0:c.same.length<=2000000):Pu Tryz.prog 38 [.agg old.cells,.agg new.cells,.agg c.cells] (.bool (Gf old new c)):=by
 refine qK5 (n:=38) Ah Tryz.func38 rfl rfl ?_;refine FL ?_;refine ax 3 (CC 2 0) ?_;refine ax 4 (CC 2 1) ?_;refine ax 5 (CC 1 2) ?_;refine wk 7 ?_;refine ax 11 (Cn Tryz.func48 (fw old new hno hnn hio hin)) ?_;refine wk 2 ?_;refine BM 13 (fun hb1=>?_) fun hb1=>?_
 .
  refine wk 11 ?_;exact sX
 refine wk 2 ?_;refine ax 16 (Cn Tryz.func49 (ft old c hcl0)) ?_;refine wk 3 ?_;refine asp 18 (fun hb2=>?_) fun hb2=>?_
 .
  refine wk 5 ?_;exact sX
 refine Bg ?_;have hsh:vshaped old new=true:=FX BR;have hsz:EX old c=true:=FX BR;obtain⟨hcl,hall2⟩:=fu hsz;have hV:=HQ hsh;have hSo:=Fe hV.so;have hSn:=Fe hV.sn;have hr0:=hSo.r0;have hr1:=hSo.r1;have hR:((old.regs.toNat:Nat):Int)=old.regs:=q41 hr0;have hrl:∀r∈c.same,r.length=old.regs.toNat:=fun r hr=>by have:=hall2 r hr;omega
 refine wk 4 ?_;refine ax 20 (Cn Tryz.func50 (kT old Ab)) ?_;refine wk 8 ?_;refine Ap (γ:=Nat) 3 (fun k=>⟨38,(Aa (Aa (Aa (Aa (Aa AU 3 (pZ 0)) 4 (pZ 1)) 5 (pZ 2)) 7 (Ax old.nexts)) 8 (iN k)),(Af (Af (Af (A0 3) 0 (rf 2 [old.cells])) 1 (rf 2 [new.cells])) 2 (rf 1 [c.cells]))⟩) (fun k=>k<=old.blocks.length/\((old.blocks.zip new.blocks).zipIdx.take k).all (fun p=>Ht old.regs.toNat p.1.1 p.1.2 c (p.2:Int) p.1.1.nexts)=true) (fun k=>old.blocks.length-k) 0 (qJ1 Cq B5) ⟨qZ1 _,rfl⟩ (fun _=>Ac (B9) rfl) ?_;intro k ⟨hk,hallb⟩;refine wk 9 ?_;refine asp 25 (fun hb3=>?_) fun hb3=>?_
 .
  refine Ba ?_;have hkl:k<old.blocks.length:=by simpa using hb3
  obtain⟨x,hx⟩:=Ad hkl;have hxm:=q33 hx;obtain⟨y,hy⟩:=Ad (l:=new.blocks) (k:=k) (by have:=hV.len;omega);have hym:=q33 hy;have hsb:=hV.b k x y hx hy;have hnx:∀q∈x.nexts,0<=q/\q<c.same.length:=fun q hq=>by rw[hcl];exact hSo.next x hxm q hq
  have hvv:x.fin=2->(0<=x.v/\x.v<(old.regs.toNat:Int))/\(0<=y.v/\y.v<(old.regs.toNat:Int)):=fun hf=>by rw[hR];refine⟨hSo.v x hxm hf,?_⟩;rw[hV.regs];exact hSn.v y hym (by rw[<-hsb.1];exact hf)
  have hto:∀t∈x.ins,Kb t old.regs.toNat:=fun t ht=>hSo.tacs x hxm t ht ((hio x hxm).2 t ht)
  have htn:∀t∈y.ins,Kb t old.regs.toNat:=fun t ht=>by rw[hV.regs];exact hSn.tacs y hym t ht ((hin y hym).2 t ht)
  have hnl:x.nexts.length<=100000:=Pq x;refine wk 5 ?_
  skip
  refine wk 6 ?_;refine dq 34 (En Ah (Au (C8 hx))) ?_;refine wk 1 ?_;refine dx 36 (Cn Tryz.func51 (fK old new x y old.regs.toNat c (k:Int) x.nexts hR.symm Ab hx hy hrl Ab hnx hvv hto htn (hio x (q33 hx)).1 (hin y (q33 hy)).1 hnl)) ?_;refine dq 37 (Iu rfl rfl) ?_;refine wk 1 ?_;refine asp 37 (fun hb4=>?_) fun hb4=>?_
  .
   refine Ba ?_;have hbad:=E5 hb4;refine wk 4 ?_;refine CE ⟨[_],⟨rfl,trivial⟩,?_,rfl⟩;refine bc ?_;exact(Z0 hx hy hbad).symm
  refine Bg ?_;have hgood:=FX hb4;refine wk 3 ?_;refine aq 27 (AS rfl rfl hkl (show old.blocks.length<=maxLen by simp only[maxLen];omega)) ?_;exact tP
 refine Bg ?_;have hge:old.blocks.length<=k:=by simpa using hb3
 refine wk 5 ?_;refine CE ⟨[_],⟨rfl,trivial⟩,?_,rfl⟩;refine bc ?_;exact(ZZ hsh hsz (CJ hallb (by rw[List.length_zipIdx,List.length_zip];omega))).symm
theorem I5(paths:List (List Int))(k i:Int)(hpn:∀p∈paths,p≠[]):Pu Tryz.prog 68 [Ax paths,.int .i64 k,.int .i64 i] (.bool (Ew paths k i)):=by
 refine qK5 (n:=25) Ah Tryz.func68 rfl rfl ?_;refine wk 9 ?_;refine BM 9 (fun hb1=>?_) fun hb1=>?_
 .
  refine wk 6 ?_;refine BM 15 (fun hb2=>?_) fun hb2=>?_
  .
   have hkr:0<=k/\k<paths.length:=by simp_all[Ax]<;>omega
   have hpk:=I9 hkr;have hp0:=Lp (hpn _ (q33 hpk));refine wk 2 ?_;refine aq 18 (An Ah rfl rfl rfl rfl rfl rfl hkr.1 (C4 hpk) rfl) ?_;refine wk 1 ?_;refine aq 20 (An Ah rfl rfl rfl rfl rfl rfl Al (cs:=[.int .i64 (E6 (DM paths k))]) xX rfl) ?_;refine wk 6 ?_;exact iP
  refine wk 11 ?_;exact iP
 refine wk 17 ?_;exact iP
theorem lZ(old:BFunc)(b:Block)(paths:List (List Int))(p:List Int)(hpn:∀p∈paths,p≠[])(hp:oJ old.blocks.length p)(hpl:p.length<=2000000)(hbl:b.ins.length<=1000000000)(hol:∀x∈old.blocks,x.ins.length<=1000000000):Pu Tryz.prog 47 [.agg old.cells,.agg b.cells,Ax paths,AI p] (.bool (S8 old b paths p)):=by
 have hpos:0<p.length:=q43.2 hp.1;refine qK5 (n:=143) Ah Tryz.func47 rfl rfl ?_;refine FL ?_;refine ax 4 (CC 2 0) ?_;refine ax 5 (CC 5 1) ?_;refine wk 12 ?_;refine Ap (γ:=Nat) 2 (fun k=>⟨143,(Aa (Aa (Aa (Aa (Aa (Aa AU 2 (Ax paths)) 3 (AI p)) 4 (pZ 0)) 5 (pZ 1)) 10 (iN k)) 9 (.int .i64 (((old.joined (p.take k)).length:Nat):Int))),(Af (Af (A0 2) 0 (rf 2 [old.cells])) 1 (rf 5 [b.cells]))⟩) (fun k=>k<=p.length/\b.ins.take (old.joined (p.take k)).length=old.joined (p.take k)/\((List.range (p.length-1)).take k).all (Mg old p)=true) (fun k=>p.length-k) 0 (qJ1 B4 B5) ⟨qZ1 _,by simp[BFunc.joined],rfl⟩ (fun _=>B9) ?_;intro k hF;refine wk 8 ?_;refine asp 19 (fun hb1=>?_) fun hb1=>?_
 .
  refine Ba ?_;have hkl:k<p.length:=Dq hb1;obtain⟨y,hy⟩:=Ad hkl;have hyr:=hp.2 y (q33 hy);have hyb:=Bp hyr;have hxl:=hol _ (q33 hyb);refine wk 9 ?_;refine dq 26 (En Ah (Au hy)) ?_;refine wk 1 ?_;refine dq 28 (An Ah rfl rfl rfl rfl rfl rfl hyr.1 (C4 hyb) rfl) ?_;refine wk 1 ?_;refine dx 11 (DA Ah 2) ?_;refine wk 8 ?_;refine Ap (γ:=Nat) 3 (fun j=>⟨143,(Aa (Aa (Aa (Aa (Aa (Aa (Aa (Aa AU 2 (Ax paths)) 3 (AI p)) 4 (pZ 0)) 5 (pZ 1)) 10 (iN k)) 9 (.int .i64 (((old.joined (p.take k)).length+j:Nat):Int))) 11 (pZ 2)) 12 (iN j)),(Af (Af (Af (A0 3) 0 (rf 2 [old.cells])) 1 (rf 5 [b.cells])) 2 (rf 5 [(old.blockAt y).cells]))⟩) (fun j=>j<=(old.blockAt y).ins.length/\b.ins.take ((old.joined (p.take k)).length+j)=old.joined (p.take k)++(old.blockAt y).ins.take j) (fun j=>(old.blockAt y).ins.length-j) 0 (qJ1 B4 B5) ⟨qZ1 _,by rw[qX5,List.take_zero,q91];exact hF.2.1⟩ (fun _=>Ac (B9) rfl) ?_
  intro j hG;refine wk 9 ?_;refine asp 34 (fun hb2=>?_) fun hb2=>?_
  .
   refine Ba ?_;have hjl:j<(old.blockAt y).ins.length:=Dq hb2;obtain⟨u,hu⟩:=Ad hjl;have hbnd:(old.joined (p.take k)).length+j<=b.ins.length:=by
    have h:=congrArg List.length hG.2;rw[q69,q48,q69]at h;omega
   refine wk 12 ?_;refine qK9 42 rfl (fun hb3=>?_) (fun hb3=>?_)
   .
    refine wk 18 ?_;exact tw
   have hnb:(old.joined (p.take k)).length+j<b.ins.length:=by have h:=hb3;simp at h;omega
   obtain⟨v,hv⟩:=Ad hnb;refine wk 3 ?_;refine dq 46 (En Ah (Au hv)) ?_;refine wk 4 ?_;refine dq 51 (En Ah (Au hu)) ?_;refine wk 1 ?_;refine dq 53 (E0 Ah true rfl rfl rfl AF rfl rfl rfl rfl (Tac.eqCells v u)) ?_;refine dq 54 (Fh false rfl rfl rfl rfl) ?_;refine wk 1 ?_;refine asp 54 (fun hb4=>?_) fun hb4=>?_
   .
    refine wk 5 ?_;exact tw
   refine Bg ?_;have huv:v=u:=by have h:=hb4;simpa using h
   refine wk 3 ?_;refine aq 56 (AS rfl rfl hnb Bq) ?_;refine wk 4 ?_;refine aq 36 (AS rfl rfl hjl Bq) ?_;refine wk 2 ?_;exact⟨j+1,qV1 D5 FM,⟨hjl,fd hG.2 hu (huv▸hv)⟩,by omega⟩
  refine Bg ?_;have hge2:=Dr hb2;have htb:=ZG hy hG.2 (by have:=hG.1;omega);refine wk 4 ?_;refine dq 58 (AS rfl rfl hkl Bq) ?_;refine wk 4 ?_;refine qK9 62 rfl (fun hb5=>?_) (fun hb5=>?_)
  .
   have hk1:k<p.length-1:=by have h:=hb5;simp at h;omega
   obtain⟨z,hz⟩:=Ad (l:=p) (k:=k+1) Ab;have hat:Mg old p k=((old.blockAt y).fin==1&&(old.blockAt y).to==z):=by rw[Mg,Nr hy,Nr hz]
   refine wk 4 ?_;refine qK9 66 rfl (fun hb6=>?_) (fun hb6=>?_)
   .
    refine wk 16 ?_;exact sa
   refine wk 4 ?_;refine dq 71 (AS rfl rfl hkl Bq) ?_;refine dq 72 (An Ah rfl rfl rfl rfl rfl rfl (q46 _) (cs:=[.int .i64 z]) yb rfl) ?_;refine wk 5 ?_;refine asp 76 (fun hb7=>?_) fun hb7=>?_
   .
    refine wk 5 ?_;exact sa
   refine wk 4 ?_;exact xh
  refine wk 19 ?_;exact xh
 refine Bg ?_;have hge:=Dr hb1;obtain rfl:k=p.length:=by have:=hF.1;omega
 have hall:G8 old p=true:=CJ hF.2.2 Aq;have hmd:=gk (f:=old) (b:=b.ins) (p:=p) (by have h:=hF.2.1;rwa[q20 (qZ0 _)]at h);have hjp:List.take p.length p=p:=q20 (qZ0 _);rw[hjp];have hlast:=hp.2 _ (Jg hp.1);refine wk 8 ?_;refine dq 82 (A9 (r:=.int .i64 ((p.length-1:Nat):Int)) rfl rfl rfl (by rw[q76];exact Jf hpos Ab)) ?_;refine dq 83 (An Ah rfl rfl rfl rfl rfl rfl (q46 _) (cs:=[.int .i64 (A7 p)]) (by show(List.map (fun b=>[AV.int .i64 b]) p)[_]?=_;rw[q55,q54,RV hp.1];rfl) rfl) ?_;refine wk 1 ?_;refine dq 85 (An Ah rfl rfl rfl rfl rfl rfl hlast.1 (C4 (Bp hlast)) rfl) ?_;refine wk 1 ?_;refine dx 13 (DA Ah 2) ?_;refine wk 11 ?_;refine BM 92 (fun hb8=>?_) fun hb8=>?_
 .
  refine wk 19 ?_;exact uE
 refine wk 7 ?_;refine BM 99 (fun hb9=>?_) fun hb9=>?_
 .
  refine wk 12 ?_;exact uE
 refine wk 7 ?_;refine asp 105 (fun hb10=>?_) fun hb10=>?_
 .
  refine wk 5 ?_;exact uE
 refine wk 18 ?_;refine BM 114 (fun hb11=>?_) fun hb11=>?_
 .
  refine wk 12 ?_;refine ax 124 (Cn Tryz.func68 (I5 _ _ _ hpn)) ?_;refine wk 18 ?_;refine asp 132 (fun hb12=>?_) fun hb12=>?_
  .
   refine wk 7 ?_;refine ax 138 (Cn Tryz.func68 (I5 _ _ _ hpn)) ?_;refine wk 6 ?_;refine BM 140 (fun hb13=>?_) fun hb13=>?_
   .
    exact iI
   exact iI
  refine wk 6 ?_;refine BM 140 (fun hb14=>?_) fun hb14=>?_
  .
   exact iI
  exact iI
 refine wk 5 ?_;refine asp 118 (fun hb15=>?_) fun hb15=>?_
 .
  refine wk 7 ?_;refine ax 124 (Cn Tryz.func68 (I5 _ _ _ hpn)) ?_;refine wk 18 ?_;refine asp 132 (fun hb16=>?_) fun hb16=>?_
  .
   refine wk 7 ?_;refine ax 138 (Cn Tryz.func68 (I5 _ _ _ hpn)) ?_;refine wk 6 ?_;refine BM 140 (fun hb17=>?_) fun hb17=>?_
   .
    exact iI
   exact iI
  refine wk 6 ?_;refine BM 140 (fun hb18=>?_) fun hb18=>?_
  .
   exact iI
  exact iI
 refine wk 18 ?_;refine asp 132 (fun hb19=>?_) fun hb19=>?_
 .
  refine wk 7 ?_;refine ax 138 (Cn Tryz.func68 (I5 _ _ _ hpn)) ?_;refine wk 6 ?_;refine BM 140 (fun hb20=>?_) fun hb20=>?_
  .
   exact iI
  exact iI
 refine wk 6 ?_;refine BM 140 (fun hb21=>?_) fun hb21=>?_
 .
  exact iI
 exact iI
theorem Xu(old new:BFunc)(paths:List (List Int))(hol:∀x∈old.blocks,x.ins.length<=1000000000)(hnl:∀x∈new.blocks,x.ins.length<=1000000000)(hpl:paths.length<=2000000)(hps:∀p∈paths,p.length<=2000000):Pu Tryz.prog 37 [.agg old.cells,.agg new.cells,Ax paths] (.bool (DE old new paths)):=by
 refine qK5 (n:=95) Ah Tryz.func37 rfl rfl ?_;refine FL ?_;refine ax 3 (CC 2 0) ?_;refine ax 4 (CC 2 1) ?_;refine wk 12 ?_;refine BM 16 (fun hb1=>?_) fun hb1=>?_
 .
  refine wk 17 ?_;exact d3
 refine wk 5 ?_;refine BM 21 (fun hb2=>?_) fun hb2=>?_
 .
  refine wk 12 ?_;exact d3
 refine wk 7 ?_;refine asp 27 (fun hb3=>?_) fun hb3=>?_
 .
  refine wk 5 ?_;exact d3
 refine Bg ?_;have h0:paths.length≠0/\paths.length=new.blocks.length/\old.regs=new.regs:=by
  have h1:=hb1;have h2:=hb2;have h3:=hb3;simp only[q76,bne_eq_false_iff_eq,q40,ne_eq]at h1 h2 h3;exact⟨by omega,by omega,h3⟩
 refine wk 7 ?_;refine Ap (γ:=Nat) 2 (fun k=>⟨95,(Aa (Aa (Aa (Aa AU 2 (Ax paths)) 3 (pZ 0)) 4 (pZ 1)) 7 (iN k)),(Af (Af (A0 2) 0 (rf 2 [old.cells])) 1 (rf 2 [new.cells]))⟩) (fun k=>(paths.take k).all (Gi old.blocks.length)=true) (fun k=>paths.length-k) 0 (qJ1 B4 B5) rfl (fun _=>B9) ?_;intro k hF;refine wk 8 ?_;refine asp 31 (fun hb4=>?_) fun hb4=>?_
 .
  refine Ba ?_;have hkl:k<paths.length:=Dq hb4;obtain⟨p,hp⟩:=Ad hkl;have hpp:=hps p (q33 hp);refine wk 8 ?_;refine aq 36 (En Ah (Au hp)) ?_;refine wk 4 ?_;refine asp 39 (fun hb5=>?_) fun hb5=>?_
  .
   exact s9
  refine Bg ?_;have hpe:(p.length==0)=false:=by have h:=hb5;simp at h;simp[h]
  refine wk 6 ?_;refine Ap (γ:=Nat) 2 (fun j=>⟨95,(Aa (Aa (Aa (Aa (Aa AU 2 (Ax paths)) 3 (pZ 0)) 4 (pZ 1)) 7 (iN k)) 8 (iN j)),(Af (Af (A0 2) 0 (rf 2 [old.cells])) 1 (rf 2 [new.cells]))⟩) (fun j=>(p.take j).all (fun i=> !(decide (i<0))&& !(decide (i>=(old.blocks.length:Int))))=true) (fun j=>p.length-j) 0 (qJ1 B4 B5) rfl (fun _=>B9) ?_;intro j hG;refine wk 6 ?_;refine aq 43 (En Ah (Au hp)) ?_;refine wk 4 ?_;refine asp 46 (fun hb6=>?_) fun hb6=>?_
  .
   refine Ba ?_;have hjl:j<p.length:=Dq hb6;obtain⟨y,hy⟩:=Ad hjl;refine wk 7 ?_;refine dq 51 (En Ah (Au hp)) ?_;refine wk 2 ?_;refine dq 54 (En Ah (Au hy)) ?_;refine wk 3 ?_;refine qK9 57 rfl (fun hb7=>?_) (fun hb7=>?_)
   .
    refine wk 18 ?_;exact oO
   refine wk 2 ?_;refine dq 60 (En Ah (Au hp)) ?_;refine wk 2 ?_;refine dq 63 (En Ah (Au hy)) ?_;refine wk 7 ?_;refine asp 69 (fun hb8=>?_) fun hb8=>?_
   .
    refine wk 5 ?_;exact oO
   refine wk 4 ?_;refine aq 48 (AS rfl rfl hjl Bq) ?_;exact tJ
  refine Bg ?_;have hge2:=Dr hb6;refine wk 3 ?_;refine aq 33 (AS rfl rfl hkl Bq) ?_;exact wW
 refine Bg ?_;have hge:=Dr hb4;have hall:=CJ hF hge;have hp00:=I9 (paths:=paths) (k:=0) Ab;have hp01:=Lp (FN (q67.1 hall _ (q33 hp00))).1;refine wk 5 ?_;refine aq 71 (An Ah rfl rfl rfl rfl rfl rfl Al (cs:=Gj (DM paths 0)) (C4 hp00) rfl) ?_;refine wk 1 ?_;refine aq 73 (An Ah rfl rfl rfl rfl rfl rfl Al (cs:=[.int .i64 (E6 (DM paths 0))]) xZ rfl) ?_;refine wk 3 ?_;refine asp 75 (fun hb9=>?_) fun hb9=>?_
 .
  exact rZ
 refine Bg ?_;have hz:=hb9;refine wk 7 ?_;refine Ap (γ:=Nat) 2 (fun k=>⟨95,(Aa (Aa (Aa (Aa AU 2 (Ax paths)) 3 (pZ 0)) 4 (pZ 1)) 9 (iN k)),(Af (Af (A0 2) 0 (rf 2 [old.cells])) 1 (rf 2 [new.cells]))⟩) (fun k=>(paths.zipIdx.take k).all (I1 old new paths)=true) (fun k=>paths.length-k) 0 (qJ1 B4 B5) rfl (fun _=>B9) ?_;intro k hS;refine wk 8 ?_;refine asp 79 (fun hb10=>?_) fun hb10=>?_
 .
  refine Ba ?_;have hkl:k<paths.length:=Dq hb10;obtain⟨p,hp⟩:=Ad hkl;have hpp:=hps p (q33 hp);have hpin:=FN (q67.1 hall p (q33 hp));have hnb:new.blocks[((k:Nat):Int).toNat]?=some (new.blockAt k):=Bp Ab;refine wk 9 ?_;refine dq 86 (An Ah rfl rfl rfl rfl rfl rfl (q46 _) (cs:=(new.blockAt k).cells) (C4 hnb) rfl) ?_;refine wk 4 ?_;refine dq 91 (En Ah (Au hp)) ?_;refine wk 1 ?_;refine dx 93 (Cn Tryz.func47 (lZ old (new.blockAt k) paths p (fun p hp=>(FN (q67.1 hall p hp)).1) hpin hpp (hnl _ (q33 hnb)) hol)) ?_;refine dq 94 (Iu rfl rfl) ?_;refine wk 1 ?_;refine asp 94 (fun hb11=>?_) fun hb11=>?_
  .
   refine wk 5 ?_;refine CE ⟨[_],⟨rfl,trivial⟩,?_,rfl⟩;refine bc ?_;exact(Su (Cw (BG hp) (by rw[TS];simpa using(show(!S8 old (new.blockAt k) paths p)=true from ‹_›)))).symm
  refine wk 4 ?_;refine aq 81 (AS rfl rfl hkl Bq) ?_;refine wk 2 ?_;exact⟨k+1,qV1 D5 FM,(Cv (BG hp) hS (by rw[TS];simpa using(show(!S8 old (new.blockAt k) paths p)=false from ‹_›))),by omega⟩
 refine Bg ?_;have hge3:=Dr hb10;exact sy
theorem kU(k:Int):Pu Tryz.prog 22 [.int .i64 k] (.bool (BL k)):=by
 refine qK5 (n:=9) Ah Tryz.func22 rfl rfl ?_;refine wk 9 ?_;refine BM 5 (fun hb1=>?_) fun hb1=>?_
 .
  exact rY
 exact rY
theorem Xp(f:BFunc)(p:OPass)(hf:I35 f)(hp:uk p)(hcl:p.cert.same.length<=1048576):Pu Tryz.prog 24 [.agg f.cells,.agg p.cells] (.bool (p.holds f)):=by
 have hr:p.holds f=p.rholds f:=qy hf.w hp.f.w;refine qK5 (n:=38) Ah Tryz.func24 rfl rfl ?_;refine FL ?_;refine ax 2 (CC 2 0) ?_;refine ax 3 (CC 5 1) ?_;refine wk 9 ?_;refine asp 7 (fun hb1=>?_) fun hb1=>?_
 .
  refine Ba ?_;have h4:p.kind=4:=by simpa using hb1
  have hr4:p.rholds f=(p.cert.same.isEmpty&&DE f p.f p.paths):=by unfold OPass.rholds;rw[h4];rfl
  refine wk 8 ?_;refine BM 13 (fun hb2=>?_) fun hb2=>?_
  .
   refine wk 5 ?_;refine ax 19 (Cn Tryz.func37 (Xu f p.f p.paths (fun x hx=>qX2 (hf.i x hx).1 Al) (fun x hx=>qX2 (hp.f.i x hx).1 Al) (qX2 hp.n Al) (fun q hq=>qX2 (hp.q q hq) Al))) ?_;refine wk 3 ?_;refine CE ⟨[_],⟨rfl,trivial⟩,?_,rfl⟩;refine bc ?_;rw[hr,hr4];exact bT
  refine wk 9 ?_;refine CE ⟨[_],⟨rfl,trivial⟩,?_,rfl⟩;refine bc ?_;rw[hr,hr4];exact bT
 refine Bg ?_;have h4:p.kind≠4:=by simpa using hb1
 have hr4:p.rholds f=(BL p.kind&&(p.paths.isEmpty&&Gf f p.f p.cert)):=by unfold OPass.rholds;rw[q40.2 h4];rfl
 refine wk 5 ?_;refine ax 23 (Cn Tryz.func22 (kU p.kind)) ?_;refine wk 1 ?_;refine BM 24 (fun hb3=>?_) fun hb3=>?_
 .
  refine wk 6 ?_;refine BM 30 (fun hb4=>?_) fun hb4=>?_
  .
   refine wk 5 ?_;refine ax 36 (Cn Tryz.func38 (fJ f p.f hf.n hp.f.n hf.i hp.f.i p.cert (qX2 hcl Al))) ?_;refine wk 3 ?_;exact je
  refine wk 9 ?_;exact je
 refine wk 15 ?_;exact je
theorem Xo(f g:BFunc)(l:List OPass)(hl:l.length<=1048576)(hI0:I35 f)(hH:∀p∈l,uk p/\p.cert.same.length<=1048576):Pu Tryz.prog 32 [.agg f.cells,.agg g.cells,CQ l] (.bool (BS f g l)):=by
 refine qK5 (n:=29) Ah Tryz.func32 rfl rfl ?_;refine FL ?_;refine ax 3 (CC 2 0) ?_;refine ax 4 (CC 2 1) ?_;refine wk 8 ?_;refine Ap (γ:=Nat) 2 (fun k=>⟨29,(Aa (Aa (Aa (Aa AU 2 (CQ l)) 3 (pZ 0)) 4 (pZ 1)) 7 (iN k)),(Af (Af (A0 2) 0 (rf 2 [(LI f (l.take k)).cells])) 1 (rf 2 [g.cells]))⟩) (fun k=>I35 (LI f (l.take k))/\BS f (LI f (l.take k)) (l.take k)=true) (fun k=>l.length-k) 0 (qJ1 Cq B5) ⟨hI0,q96 rfl⟩ (fun _=>B9) ?_;intro k hF;refine wk 8 ?_;refine asp 11 (fun hb1=>?_) fun hb1=>?_
 .
  refine Ba ?_;have hkl:=Dq hb1;obtain⟨p,hp⟩:=Ad hkl;have hpm:=q33 hp;refine wk 9 ?_;refine dq 17 (En Ah (Au hp)) ?_;refine wk 1 ?_;refine dx 19 (Cn Tryz.func24 (Xp _ p hF.1 (hH p hpm).1 (hH p hpm).2)) ?_;refine dq 20 (Iu rfl rfl) ?_;refine wk 1 ?_;refine asp 20 (fun hb2=>?_) fun hb2=>?_
  .
   refine Ba ?_;have hno:p.holds (LI f (l.take k))=false:=by simpa using hb2
   exact ja
  refine Bg ?_;have hyes:p.holds (LI f (l.take k))=true:=by simpa using hb2
  refine wk 4 ?_;refine aq 23 (En Ah (Au hp)) ?_;refine wk 6 ?_;refine aq 13 (AS rfl rfl hkl Bq) ?_;refine wk 2 ?_;exact⟨k+1,qV1 D5 yB,⟨by rw[NI f hp];exact(hH p hpm).1.f,Pv hp hF.2 hyes⟩,by omega⟩
 refine Bg ?_;have hge:=Dr hb1;have hE:I35 (LI f l)/\BS f (LI f l) l=true:=by have h:=hF;rwa[q20 hge]at h
 refine wk 2 ?_;rw[q20 hge];refine wk 3 ?_;refine ax 28 (Cn Tryz.func23 (VI _ g hE.1.lim.big)) ?_;refine wk 2 ?_;refine CE ⟨[_],⟨rfl,trivial⟩,?_,rfl⟩;refine bc ?_;rw[RR hE.2]
theorem Xt(a b:Blocks)(ls:List (List OPass))(ha:a.funcs.length<=1048576)(hI:∀f∈a.funcs,I35 f)(hP:∀l∈ls,l.length<=1048576/\∀p∈l,uk p/\p.cert.same.length<=1048576):Pu Tryz.prog 17 [.agg a.cells,.agg b.cells,IL ls] (.bool (Hk a b ls)):=by
 refine qK5 (n:=62) Ah Tryz.func17 rfl rfl ?_;refine FL ?_;refine ax 3 (CC 2 0) ?_;refine ax 4 (CC 2 1) ?_;refine wk 6 ?_;refine ax 9 (Cn Tryz.func29 (M0 _)) ?_;refine wk 2 ?_;refine BM 11 (fun hb1=>?_) fun hb1=>?_
 .
  refine wk 34 ?_;exact Zd
 refine wk 1 ?_;refine ax 13 (Cn Tryz.func29 (M0 _)) ?_;refine wk 3 ?_;refine BM 16 (fun hb2=>?_) fun hb2=>?_
 .
  refine wk 29 ?_;exact Zd
 refine wk 7 ?_;refine BM 23 (fun hb3=>?_) fun hb3=>?_
 .
  refine wk 22 ?_;exact Zd
 refine wk 9 ?_;refine BM 32 (fun hb4=>?_) fun hb4=>?_
 .
  refine wk 13 ?_;exact Zd
 refine wk 8 ?_;refine asp 39 (fun hb5=>?_) fun hb5=>?_
 .
  refine wk 5 ?_;exact Zd
 refine Bg ?_;have hr1:a.right=true:=by simpa using hb1
 have hr2:b.right=true:=by simpa using hb2
 have hw:a.words=b.words:=by have h:=hb3;simp at h;omega
 have hn1:a.funcs.length=b.funcs.length:=by have h:=hb4;simp at h;omega
 have hn2:ls.length=a.funcs.length:=by have h:=hb5;simp at h;omega
 refine wk 7 ?_;refine Ap (γ:=Nat) 2 (fun k=>⟨62,(Aa (Aa (Aa (Aa AU 2 (IL ls)) 3 (pZ 0)) 4 (pZ 1)) 7 (iN k)),(Af (Af (A0 2) 0 (rf 2 [a.cells])) 1 (rf 2 [b.cells]))⟩) (fun k=>X0 a.funcs b.funcs ls k) (fun k=>ls.length-k) 0 (qJ1 Cq B5) (fun i h=>absurd h (Nat.not_lt_zero i)) (fun _=>B9) ?_;intro k hF;refine wk 8 ?_;refine asp 43 (fun hb6=>?_) fun hb6=>?_
 .
  refine Ba ?_;have hkl:k<ls.length:=Dq hb6;obtain⟨f,hf⟩:=Ad (l:=a.funcs) (k:=k) Ab;obtain⟨g,hg⟩:=Ad (l:=b.funcs) (k:=k) Ab;obtain⟨l,hl⟩:=Ad hkl;refine wk 8 ?_;refine dq 49 (En Ah (Au hf)) ?_;refine wk 4 ?_;refine dq 54 (En Ah (Au hg)) ?_;refine wk 3 ?_;refine dq 58 (En Ah (Au hl)) ?_;refine wk 1 ?_;refine dx 60 (Cn Tryz.func32 (Xo f g l (hP l (q33 hl)).1 (hI f (q33 hf)) (hP l (q33 hl)).2)) ?_;refine dq 61 (Iu rfl rfl) ?_;refine wk 1 ?_;refine asp 61 (fun hb7=>?_) fun hb7=>?_
  .
   exact sP
  refine Bg ?_;have hyes:BS f g l=true:=by simpa using hb7
  refine wk 3 ?_;refine aq 45 (AS rfl rfl hkl Bq) ?_;exact tE
 refine Bg ?_;have hge:ls.length<=k:=Dr hb6;refine wk 5 ?_;refine CE ⟨[_],⟨rfl,trivial⟩,?_,rfl⟩;refine bc ?_;exact(Om hr1 hr2 hw hn1 hn2 (UB hF Ab)).symm
set_option maxRecDepth 100000
theorem PS35.i35(h:PS35 n w f):I35 f:=⟨qX2 h.c Al,h.i⟩
theorem PS35.p35(h:PS35 n w f)(k:Int):uk (Cj f k)/\(Cj f k).cert.same.length<=1048576:=by
 have hi:=(h.step k).i35;have hl:=h.len.1;have hnil:∀r∈([]:List (List Int)),r.length<=1048576:=fun r hr=>by cases hr
 unfold Cj at hi|-
 cases e1:k==1 with
 |true=>rw[e1]at hi;exact⟨⟨hi,qZ1 _,hnil⟩,by show f.all.same.length<=_;unfold BFunc.all;rw[q30];omega⟩
 |false=>
 cases e2:k==2 with
 |true=>rw[e1,e2]at hi;exact⟨⟨hi,qZ1 _,hnil⟩,by show f.fcert.same.length<=_;unfold BFunc.fcert;rw[q30];omega⟩
 |false=>
 cases e3:k==3 with
 |true=>rw[e1,e2,e3]at hi;exact⟨⟨hi,qZ1 _,hnil⟩,by show(Fx (NP f)).length<=_;rw[Fx,q76,List.length_range,(KN (Hb f)).2];omega⟩
 |false=>
  rw[e1,e2,e3]at hi;exact⟨⟨hi,by show f.tpaths.length<=_;have:f.tpaths.length<=f.blocks.length:=Ed f _;omega,fun r hr=>by have:=FT _ r hr;omega⟩,qZ1 _⟩
set_option maxRecDepth 100000
theorem cZ(b:Blocks)(ks:List Int)(hl:ks.length<=1048576)(hbad:(ks.all BL&&decide (ks.length<=20))=false):Pu Tryz.prog 15 [.agg b.cells,AI ks] (.tup [.agg [.int .i64 0,.nil],.nil,.int .i64 1]):=by
 refine qK5 (n:=90) Ah Tryz.func15 rfl rfl ?_;refine wk 40 ?_;refine ax 2 (CC 2 0) ?_;refine ax 4 (DA Ah 1) ?_;refine wk 40 ?_;refine asp 19 (fun hb1=>?_) fun hb1=>?_
 . refine wk 40 ?_;exact rN
 have h20:ks.length<=20:=by have:=hb1;simp at this;omega
 have hall:ks.all BL=false:=by rw[q96 h20,qQ4]at hbad;exact hbad
 refine wk 40 ?_;refine qJ7 (γ:=Nat) (fun k=>⟨90,(Aa (Aa (Aa (Aa (Aa (Aa (Aa (Aa AU 1 (AI ks)) 2 (pZ 0)) 4 (pZ 1)) 5 .nil) 6 (.int .i64 0)) 21 (AI ks)) 22 (iN ks.length)) 23 (iN k)),(Af (Af hNone 0 (rf 2 [b.cells])) 1 (rf 2 [[.int .i64 0,.nil]]))⟩) (fun k=>k<=ks.length/\(ks.take k).all BL=true) (fun k=>ks.length-k) 0 (qJ1 Cq (by repeat(first|exact qJ6 _|refine qJ5 ?_ (by rfl)))) ⟨qZ1 _,rfl⟩ ?_
 rintro k ⟨hk,hF⟩
 refine wk 40 ?_;refine asp 24 (fun hb2=>?_) fun hb2=>?_
 . have hkl:k<ks.length:=by have h:=hb2;simp at h;omega
   obtain⟨q,hq⟩:=Ad hkl;refine wk 40 ?_;refine aq 25 (En Ah (Au hq)) ?_;refine wk 40 ?_;refine ax 29 (Cn Tryz.func31 (P6 _)) ?_;refine wk 40 ?_;refine asp 33 (fun hb3=>?_) fun hb3=>?_
   . refine wk 40 ?_;exact rN
   have hkq:BL q=true:=by simpa using hb3
   refine wk 3 ?_;refine aq 35 (AS rfl rfl hkl Bq) ?_;refine wk 40 ?_;exact⟨k+1,qJ1 B4 (by repeat(first|exact qJ6 _|refine qJ5 ?_ (by rfl))),⟨hkl,by rw[AT hq,q92,hF];simp[hkq]⟩,by omega⟩
 exfalso;have hge:ks.length<=k:=by have h:=hb2;simp at h;omega
 rw[q20 hge]at hF;rw[hF]at hall;cases hall
theorem RQ(hw:w<=1048576):∀(ks:List Int) (f:BFunc),PS35 n w f->(∀k∈ks,BL k=true)->BS f (Nz Cj ks f) (EA Cj ks f)=true
 | [],f,_,_=>by simp[BS,EA,Nz]
 |k::r,f,h,hk=>by
  show((Cj f k).holds f&&BS (Cj f k).f (Nz Cj r (Cj f k).f) (EA Cj r (Cj f k).f))=true;rw[q66];exact⟨h.holds_g hw k (hk k Aq),RQ hw r _ (h.step k) fun q hq=>hk q (by simp[hq])⟩
theorem Rb:∀(ks:List Int) (f:BFunc),PS35 n w f->∀p∈EA Cj ks f,∃g k,PS35 n w g/\p=Cj g k
 | [],f,_,p,h=>by cases h
 |k::r,f,h,p,hp=>by
  rcases q99.1 (show p∈Cj f k::EA Cj r (Cj f k).f from hp)with rfl|hp
  . exact⟨f,k,h,rfl⟩
  . exact Rb r _ (h.step k) p hp
theorem Rm{b:Blocks}(h:All35 b){ks:List Int}(hk:∀k∈ks,BL k=true):Hk b (LD b ks) (b.funcs.map (EA Cj ks))=true:=by
 have hw:b.words<=1048576:=(HY h.r).2.1;refine Om h.r (h.opt ks).r rfl (q76 _).symm (q76 _) (KC fun i f g l hf hg hl=>?_);obtain⟨f',hf',rfl⟩:=XN hg;have e:f'=f:=q86 (hf'.symm.trans hf);subst e;rw[q54,hf]at hl;obtain rfl:=q86 hl;exact RQ hw ks f' (h.e i f' hf) hk
theorem aP:∀(ks:List Int) (f:BFunc) (j:Nat) (k:Int) (p:OPass),(∀k∈ks,BL k=true)->ks[j]?=some k->(EA Cj ks f)[j]?=some p->p.kind=k:=fun ks f j k p hk hj hp=>by
 rw[Rc hj]at hp;obtain rfl:=q86 hp;have:=hk k (q33 hj);unfold Cj;have h4:k=1\/k=2\/k=3\/k=4:=by simp[BL]at this;omega
 rcases h4 with e|e|e|e<;>subst e<;>rfl
theorem OM(k:Int)(v:Value)(f:BFunc)(p:OPass)(hV:Pu Tryz.prog 129 [.agg f.cells,.agg p.f.cells,.agg p.cert.cells] (.bool (Dj f p.f p.cert))):Pu Tryz.prog 127 [.agg [.int .i64 k,.val v],.agg f.cells,.agg p.cells] (.bool (p.paths.isEmpty&&Dj f p.f p.cert)):=by
 refine qK5 (n:=19) Ah Tryz.func127 rfl rfl ?_;refine FL ?_;refine ax 3 (CC 2 0) ?_;refine ax 4 (CC 2 1) ?_;refine ax 5 (CC 5 2) ?_;refine wk 9 ?_;refine BM 11 (fun hb1=>?_) fun hb1=>?_
 .
  refine wk 5 ?_;refine ax 17 (Cn Tryz.func129 (hV)) ?_;refine wk 3 ?_;exact rX
 refine wk 9 ?_;exact rX
theorem gy(k:Int)(f:BFunc)(p:OPass)(hT:Pu Tryz.prog 143 [.agg f.cells,.agg p.f.cells,Ax p.paths] (.bool (DE f p.f p.paths))):Pu Tryz.prog 141 [.agg [.int .i64 k],.agg f.cells,.agg p.cells] (.bool (p.cert.same.isEmpty&&DE f p.f p.paths)):=by
 refine qK5 (n:=20) Ah Tryz.func141 rfl rfl ?_;refine FL ?_;refine ax 3 (CC 1 0) ?_;refine ax 4 (CC 2 1) ?_;refine ax 5 (CC 5 2) ?_;refine wk 10 ?_;refine BM 12 (fun hb1=>?_) fun hb1=>?_
 .
  refine wk 5 ?_;refine ax 18 (Cn Tryz.func143 (hT)) ?_;refine wk 3 ?_;refine CE ⟨[_],⟨rfl,trivial⟩,?_,rfl⟩;refine bc ?_;exact bT
 refine wk 9 ?_;refine CE ⟨[_],⟨rfl,trivial⟩,?_,rfl⟩;refine bc ?_;exact bT
theorem aV(hk:BL p.kind=true)(hV:Pu Tryz.prog 129 [.agg f.cells,.agg p.f.cells,.agg p.cert.cells] (.bool (Dj f p.f p.cert)))(hT:Pu Tryz.prog 143 [.agg f.cells,.agg p.f.cells,Ax p.paths] (.bool (DE f p.f p.paths))):Lz p f:=by
 unfold Lz;rw[mY hk];rcases Mn hk with h|h|h|h<;>rw[h]
 . exact OM 1 _ f p hV
 . exact OM 2 _ f p hV
 . exact OM 3 _ f p hV
 . exact gy 4 f p hT
theorem nY(words f regs blocks:Int)(t:Tac)(hw:0<=words)(hw2:words<=1048576):APure Tryz.prog 66 [(.agg [.int .i64 words,.int .i64 f,.int .i64 regs,.int .i64 blocks]),.agg t.cells] (fun q=>q=.bool (t.rest2 f words)):=by
 refine qK5 (n:=115) Ah Tryz.func66 rfl rfl ?_;refine FL ?_;refine ax 2 (CC 4 0) ?_;refine ax 3 (CC 8 1) ?_;refine wk 4 ?_;refine qV2 (γ:=Unit) (fun _u=>⟨115,(Aa (Aa (Aa AU 2 (pZ 0)) 3 (pZ 1)) 23 (.bool ((t.op !=1&&t.n !=0)||(t.op !=3&&t.k !=0)))),(Af (Af (A0 2) 0 (rf 4 [[.int .i64 words,.int .i64 f,.int .i64 regs,.int .i64 blocks]])) 1 (rf 8 [t.cells]))⟩) (fun _u=>True) ?_ ?_
 .
  refine wk 5 ?_;refine BM 9 (fun hb1=>?_) fun hb1=>?_
  .
   refine wk 5 ?_;refine BM 14 (fun hb2=>?_) fun hb2=>?_
   .
    refine wk 10 ?_;exact Vg
   refine wk 4 ?_;refine BM 18 (fun hb3=>?_) fun hb3=>?_
   .
    refine wk 6 ?_;exact Vg
   refine wk 6 ?_;exact Vg
  refine wk 9 ?_;refine BM 18 (fun hb4=>?_) fun hb4=>?_
  .
   refine wk 6 ?_;exact Vg
  refine wk 6 ?_;exact Vg
 intro _u _;refine asp 23 (fun hb5=>?_) fun hb5=>?_
 .
  refine wk 5 ?_;exact LA
 refine Bg ?_;have hq1:=hb5;refine wk 2 ?_;refine qV2 (γ:=Unit) (fun _u=>⟨115,(Aa (Aa (Aa AU 2 (pZ 0)) 3 (pZ 1)) 5 (.bool (EP t.op))),(Af (Af (A0 2) 0 (rf 4 [[.int .i64 words,.int .i64 f,.int .i64 regs,.int .i64 blocks]])) 1 (rf 8 [t.cells]))⟩) (fun _u=>True) ?_ ?_
 .
  refine wk 5 ?_;refine BM 27 (fun hb6=>?_) fun hb6=>?_
  .
   refine wk 6 ?_;exact Vg
  refine wk 6 ?_;exact Vg
 intro _u _;refine wk 2 ?_;refine qV2 (γ:=Unit) (fun _u=>⟨115,(Aa (Aa (Aa AU 2 (pZ 0)) 3 (pZ 1)) 38 (.bool (!EP t.op&&t.size !=0))),(Af (Af (A0 2) 0 (rf 4 [[.int .i64 words,.int .i64 f,.int .i64 regs,.int .i64 blocks]])) 1 (rf 8 [t.cells]))⟩) (fun _u=>True) ?_ ?_
 .
  refine wk 4 ?_;refine BM 34 (fun hb7=>?_) fun hb7=>?_
  .
   refine wk 5 ?_;exact Vg
  refine wk 5 ?_;exact Vg
 intro _u _;refine asp 38 (fun hb8=>?_) fun hb8=>?_
 .
  refine wk 5 ?_;exact LA
 refine Bg ?_;have hq2:=hb8;refine wk 14 ?_;refine asp 41 (fun hb9=>?_) fun hb9=>?_
 .
  refine wk 10 ?_;exact LA
 refine wk 6 ?_;refine asp 41 (fun hb10=>?_) fun hb10=>?_
 .
  refine wk 10 ?_;exact LA
 refine wk 6 ?_;refine asp 41 (fun hb11=>?_) fun hb11=>?_
 .
  refine wk 10 ?_;exact LA
 refine wk 5 ?_;refine asp 41 (fun hb12=>?_) fun hb12=>?_
 .
  refine wk 8 ?_;exact LA
 refine wk 6 ?_;refine asp 49 (fun hb13=>?_) fun hb13=>?_
 .
  refine wk 7 ?_;refine BM 54 (fun hb14=>?_) fun hb14=>?_
  .
   refine wk 5 ?_;refine BM 59 (fun hb15=>?_) fun hb15=>?_
   .
    refine wk 6 ?_;exact LA
   refine wk 6 ?_;exact LA
  refine wk 11 ?_;exact LA
 refine wk 7 ?_;refine asp 64 (fun hb16=>?_) fun hb16=>?_
 .
  refine wk 9 ?_;refine BM 70 (fun hb17=>?_) fun hb17=>?_
  .
   refine wk 8 ?_;exact LA
  refine wk 8 ?_;exact LA
 refine wk 5 ?_;refine asp 64 (fun hb18=>?_) fun hb18=>?_
 .
  refine wk 7 ?_;refine BM 70 (fun hb19=>?_) fun hb19=>?_
  .
   refine wk 8 ?_;exact LA
  refine wk 8 ?_;exact LA
 refine wk 7 ?_;refine asp 77 (fun hb20=>?_) fun hb20=>?_
 .
  refine wk 9 ?_;refine BM 83 (fun hb21=>?_) fun hb21=>?_
  .
   refine wk 5 ?_;refine BM 88 (fun hb22=>?_) fun hb22=>?_
   .
    refine wk 5 ?_;refine BM 93 (fun hb23=>?_) fun hb23=>?_
    .
     refine wk 11 ?_;exact WT
    refine wk 11 ?_;exact WT
   refine wk 16 ?_;exact WT
  refine wk 21 ?_;exact WT
 refine wk 5 ?_;refine asp 77 (fun hb24=>?_) fun hb24=>?_
 .
  refine wk 7 ?_;refine BM 83 (fun hb25=>?_) fun hb25=>?_
  .
   refine wk 5 ?_;refine BM 88 (fun hb26=>?_) fun hb26=>?_
   .
    refine wk 5 ?_;refine BM 93 (fun hb27=>?_) fun hb27=>?_
    .
     refine wk 11 ?_;exact WT
    refine wk 11 ?_;exact WT
   refine wk 16 ?_;exact WT
  refine wk 21 ?_;exact WT
 refine wk 6 ?_;refine asp 103 (fun hb28=>?_) fun hb28=>?_
 .
  refine wk 7 ?_;refine BM 108 (fun hb29=>?_) fun hb29=>?_
  .
   refine wk 8 ?_;exact LA
  refine wk 8 ?_;exact LA
 refine wk 6 ?_;exact LA
theorem qX(words f regs blocks:Int)(t:Tac)(hw:0<=words)(hw2:words<=1048576):APure Tryz.prog 45 [(.agg [.int .i64 words,.int .i64 f,.int .i64 regs,.int .i64 blocks]),.agg t.cells] (fun q=>q=.bool (t.fits f regs words)):=by
 rw[<-gB];refine qK5 (n:=58) Ah Tryz.func45 rfl rfl ?_;refine FL ?_;refine ax 2 (CC 4 0) ?_;refine ax 3 (CC 8 1) ?_;refine wk 7 ?_;refine ax 7 (Cn Tryz.func64 (SC _)) ?_;refine an ?_;refine qV2 (γ:=Unit) (fun _u=>⟨58,(Aa (Aa AU 2 (pZ 0)) 3 (pZ 1)),(Af (Af (A0 2) 0 (rf 4 [[.int .i64 words,.int .i64 f,.int .i64 regs,.int .i64 blocks]])) 1 (rf 8 [t.cells]))⟩) (fun _u=>(bif setsOp t.op then A2 t.d regs else t.d==0)=true) ?_ ?_
 .
  refine asp 7 (fun hb1=>?_) fun hb1=>?_
  .
   refine wk 6 ?_;refine ax 11 (Cn Tryz.func63 (NH _ _ _ _ _)) ?_;refine wk 2 ?_;refine asp 12 (fun hb2=>?_) fun hb2=>?_
   .
    refine wk 5 ?_;exact WP
   exact tC
  refine wk 7 ?_;refine asp 15 (fun hb3=>?_) fun hb3=>?_
  .
   refine wk 5 ?_;exact WP
  exact tC
 intro _u hq1;refine wk 5 ?_;refine ax 18 (Cn Tryz.func65 (Vd _)) ?_;refine an ?_;refine qV2 (γ:=Unit) (fun _u=>⟨58,(Aa (Aa AU 2 (pZ 0)) 3 (pZ 1)),(Af (Af (A0 2) 0 (rf 4 [[.int .i64 words,.int .i64 f,.int .i64 regs,.int .i64 blocks]])) 1 (rf 8 [t.cells]))⟩) (fun _u=>(bif use1 t.op then A2 t.a regs&&t.b==0 else bif use2 t.op then A2 t.a regs&&A2 t.b regs else t.a==0&&t.b==0)=true) ?_ ?_
 .
  refine wk 6 ?_;refine asp 19 (fun hb4=>?_) fun hb4=>?_
  .
   refine Ba ?_;have hrd:Fw t.op=0:=by simpa using hb4
   have hu:use1 t.op=false/\use2 t.op=false:=vv hrd;refine wk 6 ?_;refine BM 24 (fun hb5=>?_) fun hb5=>?_
   .
    refine wk 10 ?_;exact WP
   refine wk 5 ?_;refine asp 28 (fun hb6=>?_) fun hb6=>?_
   .
    refine wk 5 ?_;exact WP
   exact oS
  refine wk 6 ?_;refine asp 29 (fun hb7=>?_) fun hb7=>?_
  .
   refine Ba ?_;have hrd:Fw t.op=1:=by simpa using hb7
   have hu:use1 t.op=true:=vu hrd;refine wk 5 ?_;refine ax 34 (Cn Tryz.func63 (NH _ _ _ _ _)) ?_;refine wk 2 ?_;refine BM 36 (fun hb8=>?_) fun hb8=>?_
   .
    refine wk 10 ?_;exact WP
   refine wk 5 ?_;refine asp 40 (fun hb9=>?_) fun hb9=>?_
   .
    refine wk 5 ?_;exact WP
   exact oS
  refine wk 6 ?_;refine asp 41 (fun hb10=>?_) fun hb10=>?_
  .
   refine Ba ?_;have hrd:Fw t.op=2:=by simpa using hb10
   have hu:use1 t.op=false/\use2 t.op=true:=vt hrd;refine wk 5 ?_;refine ax 46 (Cn Tryz.func63 (NH _ _ _ _ _)) ?_;refine wk 2 ?_;refine BM 48 (fun hb11=>?_) fun hb11=>?_
   .
    refine wk 12 ?_;exact WP
   refine wk 3 ?_;refine ax 52 (Cn Tryz.func63 (NH _ _ _ _ _)) ?_;refine wk 3 ?_;refine asp 54 (fun hb12=>?_) fun hb12=>?_
   .
    refine wk 5 ?_;exact WP
   exact oS
  exact oS
 intro _u hq2;refine wk 4 ?_;refine ax 57 (Cn Tryz.func66 (nY _ _ _ _ _ BR BR)) ?_;refine wk 2 ?_;refine CE ⟨[_],⟨rfl,trivial⟩,?_,rfl⟩;refine bc ?_;simp[Tac.ins2,hq1,hq2]
theorem OR(b:Blocks):Pu Tryz.prog 33 [.agg b.cells] (.bool b.right):=by
 refine qK5 (n:=80) Ah Tryz.func33 rfl rfl ?_;refine oK ?_;refine Ij 0 rfl (fun H ι v=>M2) (fun hfit=>?_);refine bB ?_;refine ax 1 (CC 2 0) ?_;refine wk 9 ?_;refine BM 13 (fun hb1=>?_) fun hb1=>?_
 .
  refine wk 16 ?_;exact jf
 refine wk 5 ?_;refine BM 18 (fun hb2=>?_) fun hb2=>?_
 .
  refine wk 11 ?_;exact jf
 refine wk 6 ?_;refine asp 23 (fun hb3=>?_) fun hb3=>?_
 .
  refine wk 5 ?_;exact jf
 refine Bg ?_;have h0:0<=b.words/\b.words<=1048576/\b.funcs.length≠0:=by simp only[q16,q56,q76]at*;omega
 refine wk 10 ?_;refine Ap (γ:=Nat) 1 (fun k=>⟨80,(Aa (Aa (Aa (Aa AU 1 (pZ 0)) 25 (Fl b.funcs)) 26 (iN b.funcs.length)) 27 (iN k)),(Af (A0 1) 0 (rf 2 [b.cells]))⟩) (fun k=>(b.funcs.zipIdx.take k).all (fun p=>p.1.one (p.2:Int) b.words)=true) (fun k=>b.funcs.length-k) 0 (qJ1 Cq B5) rfl (fun _=>B9) ?_;intro k hk;refine wk 5 ?_;refine asp 28 (fun hb4=>?_) fun hb4=>?_
 .
  refine Ba ?_;have hkl:k<b.funcs.length:=by simpa using hb4
  obtain⟨f,hf⟩:=Ad hkl;refine wk 6 ?_;refine aq 30 F6 ?_;refine wk 1 ?_;refine ax 4 (DA Ah 1) ?_;refine wk 5 ?_;refine Ij 31 rfl (fun H ι v=>N9) (fun hfit2=>?_);refine wk 5 ?_;refine BM 35 (fun hb5=>?_) fun hb5=>?_
  .
   refine wk 16 ?_;exact uy
  refine wk 5 ?_;refine BM 40 (fun hb6=>?_) fun hb6=>?_
  .
   refine wk 11 ?_;exact uy
  refine wk 6 ?_;refine asp 45 (fun hb7=>?_) fun hb7=>?_
  .
   refine wk 5 ?_;exact uy
  refine Bg ?_;have hf0:0<=f.regs/\f.regs<=4000/\f.blocks.length≠0:=by simp only[q16,q56,q76]at*;omega
  refine wk 12 ?_;refine ax 5 (DA Ah 2) ?_;refine wk 10 ?_;refine Ap (γ:=Nat) 3 (fun j=>⟨80,(Aa (Aa (Aa (Aa (Aa (Aa (Aa (Aa (Aa AU 1 (pZ 0)) 25 (Fl b.funcs)) 26 (iN b.funcs.length)) 27 (iN k)) 4 (pZ 1)) 5 (pZ 2)) 56 (BK f.blocks)) 57 (iN f.blocks.length)) 58 (iN j)),(Af (Af (Af (A0 3) 0 (rf 2 [b.cells])) 1 (rf 2 [f.cells])) 2 (rf 4 [[.int .i64 b.words,.int .i64 (k:Int),.int .i64 f.regs,.int .i64 (f.blocks.length:Int)]]))⟩) (fun j=>(f.blocks.take j).all (fun x=>x.ok f.blocks.length f.regs (k:Int) b.words)=true) (fun j=>f.blocks.length-j) 0 (qJ1 Cq (by repeat(first|exact qJ4 _|exact qJ6 _|exact AO _|exact AG Dl|refine qJ5 ?_ (by first|rfl|exact congrArg (fun(n:Nat)=>some (rf 4 [[.int .i64 b.words,.int .i64 (k:Int),.int .i64 f.regs,.int .i64 (n:Int)]])) (q76 ..))|refine AN ?_ Dl|refine Bh ?_ Al))) rfl (fun _=>Ac (B9) rfl) ?_
  intro j hj;refine wk 5 ?_;refine asp 59 (fun hb8=>?_) fun hb8=>?_
  .
   refine Ba ?_;have hjl:j<f.blocks.length:=by simpa using hb8
   obtain⟨x,hx⟩:=Ad hjl;refine wk 5 ?_;refine aq 60 F6 ?_;refine wk 1 ?_;refine ax 7 (DA Ah 3) ?_;refine wk 7 ?_;refine ax 64 (Cn Tryz.func44 (q6 _ _ _ _ x)) ?_;refine wk 2 ?_;refine asp 65 (fun hb9=>?_) fun hb9=>?_
   .
    refine Ba ?_;have hends:x.ends f.blocks.length f.regs=false:=by simpa using hb9
    refine wk 4 ?_;refine CE ⟨[_],⟨rfl,trivial⟩,?_,rfl⟩;refine bc ?_;rw[HG h0.1 h0.2.1 h0.2.2,Cw (BG hf) (by show f.one _ _=false;rw[Iw hf0.1 hf0.2.1 hf0.2.2,Cw hx (by simp[Block.ok,hends])])]
   refine Bg ?_;have hends:x.ends f.blocks.length f.regs=true:=by simpa using hb9
   refine wk 9 ?_;refine Ap (γ:=Nat) 4 (fun i=>⟨80,(Aa (Aa (Aa (Aa (Aa (Aa (Aa (Aa (Aa (Aa (Aa (Aa (Aa AU 1 (pZ 0)) 25 (Fl b.funcs)) 26 (iN b.funcs.length)) 27 (iN k)) 4 (pZ 1)) 5 (pZ 2)) 56 (BK f.blocks)) 57 (iN f.blocks.length)) 58 (iN j)) 7 (pZ 3)) 67 (CU x.ins)) 68 (iN x.ins.length)) 69 (iN i)),(Af (Af (Af (Af (A0 4) 0 (rf 2 [b.cells])) 1 (rf 2 [f.cells])) 2 (rf 4 [[.int .i64 b.words,.int .i64 (k:Int),.int .i64 f.regs,.int .i64 (f.blocks.length:Int)]])) 3 (rf 5 [x.cells]))⟩) (fun i=>(x.ins.take i).all (fun t=>t.fits (k:Int) f.regs b.words)=true) (fun i=>x.ins.length-i) 0 (qJ1 Cq B5) rfl (fun _=>Ac (Ac (B9) rfl) rfl) ?_;intro i hi;refine wk 5 ?_;refine asp 70 (fun hb10=>?_) fun hb10=>?_
   .
    refine Ba ?_;have hil:i<x.ins.length:=by simpa using hb10
    obtain⟨u,hu⟩:=Ad hil;refine wk 5 ?_;refine aq 71 F6 ?_;refine wk 1 ?_;refine ax 9 (DA Ah 4) ?_;refine wk 6 ?_;refine ax 75 (Cn Tryz.func45 (qX _ _ _ _ u h0.1 h0.2.1)) ?_;refine wk 2 ?_;refine asp 76 (fun hb11=>?_) fun hb11=>?_
    .
     refine Ba ?_;have hbw:=hb11;refine wk 4 ?_;refine CE ⟨[_],⟨rfl,trivial⟩,?_,rfl⟩;refine bc ?_;rw[HG h0.1 h0.2.1 h0.2.2,Cw (BG hf) (by show f.one _ _=false;rw[Iw hf0.1 hf0.2.1 hf0.2.2,Cw hx (by simp only[Block.ok,Cw (p:=fun t=>Tac.fits t (k:Int) f.regs b.words) hu (by simpa using hbw),q97])])]
    refine Bg ?_;have hbw:=hb11;refine wk 2 ?_;refine aq 77 (AS rfl rfl hil (hfit2.2 x (q33 hx))) ?_;refine wk 2 ?_;exact⟨i+1,qV1 D5 FM,Cv hu hi (by simpa using hbw),by omega⟩
   refine Bg ?_;have hins:=CJ hi (by simpa using hb10);refine wk 2 ?_;refine aq 78 (AS rfl rfl hjl hfit2.1) ?_;refine wk 2 ?_;exact⟨j+1,qV1 D5 FM,Cv hx hj (by simp[Block.ok,hends,hins]),by omega⟩
  refine Bg ?_;have hall:=CJ hj (by simpa using hb8);refine wk 2 ?_;refine aq 79 (AS rfl rfl hkl hfit.1) ?_;refine wk 2 ?_;exact⟨k+1,qV1 D5 FM,Cv (BG hf) hk (by show f.one _ _=true;rw[Iw hf0.1 hf0.2.1 hf0.2.2,hall]),by omega⟩
 refine Bg ?_;have hall:=CJ hk (by rw[List.length_zipIdx];simpa using hb4);exact rz
theorem bq(a b:Blocks)(ls:List (List OPass))(ha:a.funcs.length<=1048576)(hP:a.right=true->b.right=true->∀f∈a.funcs,∀g∈b.funcs,∀l∈ls,Pu Tryz.prog 34 [.agg f.cells,.agg g.cells,CQ l] (.bool (BS f g l))):Pu Tryz.prog 18 [.agg a.cells,.agg b.cells,IL ls] (.bool (Hk a b ls)):=by
 refine qK5 (n:=60) Ah Tryz.func18 rfl rfl ?_;refine FL ?_;refine ax 3 (CC 2 0) ?_;refine ax 4 (CC 2 1) ?_;refine wk 6 ?_;refine ax 10 (Cn Tryz.func33 (OR _)) ?_;refine wk 2 ?_;refine BM 12 (fun hb1=>?_) fun hb1=>?_
 .
  refine wk 17 ?_;exact iW
 refine wk 1 ?_;refine ax 14 (Cn Tryz.func33 (OR _)) ?_;refine wk 3 ?_;refine BM 17 (fun hb2=>?_) fun hb2=>?_
 .
  refine wk 12 ?_;exact iW
 refine wk 7 ?_;refine asp 23 (fun hb3=>?_) fun hb3=>?_
 .
  refine wk 5 ?_;exact iW
 refine Bg ?_;have hr1:a.right=true:=by simpa using hb1
 have hr2:b.right=true:=by simpa using hb2
 have hw:a.words=b.words:=by have h:=hb3;simp at h;omega
 refine wk 12 ?_;refine BM 31 (fun hb4=>?_) fun hb4=>?_
 .
  refine wk 13 ?_;exact Zd
 refine wk 8 ?_;refine asp 38 (fun hb5=>?_) fun hb5=>?_
 .
  refine wk 5 ?_;exact Zd
 refine Bg ?_;have hn1:a.funcs.length=b.funcs.length:=by have h:=hb4;simp at h;omega
 have hn2:ls.length=a.funcs.length:=by have h:=hb5;simp at h;omega
 refine wk 10 ?_;refine Ap (γ:=Nat) 2 (fun k=>⟨60,(Aa (Aa (Aa (Aa (Aa (Aa AU 2 (IL ls)) 3 (pZ 0)) 4 (pZ 1)) 40 (Fl a.funcs)) 41 (iN a.funcs.length)) 42 (iN k)),(Af (Af (A0 2) 0 (rf 2 [a.cells])) 1 (rf 2 [b.cells]))⟩) (fun k=>X0 a.funcs b.funcs ls k) (fun k=>a.funcs.length-k) 0 (qJ1 Cq B5) (fun i h=>absurd h (Nat.not_lt_zero i)) (fun _=>B9) ?_;intro k hF;refine wk 5 ?_;refine asp 43 (fun hb6=>?_) fun hb6=>?_
 .
  refine Ba ?_;have hkl:k<a.funcs.length:=by have h:=hb6;simp at h;omega
  obtain⟨f,hf⟩:=Ad hkl;obtain⟨g,hg⟩:=Ad (l:=b.funcs) (k:=k) Ab;obtain⟨l,hl⟩:=Ad (l:=ls) (k:=k) Ab;refine wk 6 ?_;refine aq 45 (En Ah (Au hf)) ?_;refine wk 1 ?_;refine ax 8 (DA Ah 2) ?_;refine wk 9 ?_;refine dq 51 (En Ah (Au hg)) ?_;refine wk 3 ?_;refine dq 55 (En Ah (Au hl)) ?_;refine wk 1 ?_;refine dx 57 (Cn Tryz.func34 (hP hr1 hr2 f (q33 hf) g (q33 hg) l (q33 hl))) ?_;refine dq 58 (Iu rfl rfl) ?_;refine wk 1 ?_;refine asp 58 (fun hb7=>?_) fun hb7=>?_
  .
   exact sP
  refine Bg ?_;have hyes:BS f g l=true:=by simpa using hb7
  refine wk 2 ?_;refine aq 59 (AS rfl rfl hkl Bq) ?_;exact tE
 refine Bg ?_;have hge:a.funcs.length<=k:=by have h:=hb6;simp at h;omega
 refine wk 5 ?_;refine CE ⟨[_],⟨rfl,trivial⟩,?_,rfl⟩;refine bc ?_;exact(Om hr1 hr2 hw hn1 hn2 (UB hF hge)).symm
theorem aM(f g:BFunc)(l:List OPass)(hl:l.length<=1048576)(I:BFunc->Prop)(hI0:I f)(hIb:∀f,I f->f.Lim)(hH:∀p∈l,I p.f/\∀f,I f->BL p.kind=true->Lz p f):Pu Tryz.prog 34 [.agg f.cells,.agg g.cells,CQ l] (.bool (BS f g l)):=by
 refine qK5 (n:=42) Ah Tryz.func34 rfl rfl ?_;refine FL ?_;refine ax 3 (CC 2 0) ?_;refine ax 4 (CC 2 1) ?_;refine wk 10 ?_;refine Ap (γ:=Nat) 2 (fun k=>⟨42,(Aa (Aa (Aa (Aa (Aa AU 3 (pZ 0)) 4 (pZ 1)) 11 (CQ l)) 12 (iN l.length)) 13 (iN k)),(Af (Af (A0 2) 0 (rf 2 [(LI f (l.take k)).cells])) 1 (rf 2 [g.cells]))⟩) (fun k=>I (LI f (l.take k))/\BS f (LI f (l.take k)) (l.take k)=true) (fun k=>l.length-k) 0 (qJ1 Cq B5) ⟨hI0,q96 rfl⟩ (fun _=>B9) ?_;intro k hF;refine wk 5 ?_;refine asp 14 (fun hb1=>?_) fun hb1=>?_
 .
  refine Ba ?_;have hkl:k<l.length:=by have h:=hb1;simp at h;omega
  obtain⟨p,hp⟩:=Ad hkl;have hpm:=q33 hp;refine wk 5 ?_;refine aq 15 (En Ah (Au hp)) ?_;refine wk 1 ?_;refine ax 8 (DA Ah 2) ?_;refine wk 6 ?_;refine ax 20 (Cn Tryz.func31 (P6 _)) ?_;refine wk 12 ?_;refine BM 25 (fun hb2=>?_) fun hb2=>?_
  .
   refine wk 8 ?_;have hno:p.holds (LI f (l.take k))=false:=by
    first
    |(simpa using hb2;done)
    |(exact R5 (by simpa using hb2))
   exact ja
  have hkd:BL p.kind=true:=by simpa using hb2
  refine wk 3 ?_;refine ax 29 (qc hkd rfl rfl rfl ((hH p hpm).2 _ hF.1 hkd)) ?_;refine wk 3 ?_;refine asp 31 (fun hb3=>?_) fun hb3=>?_
  .
   refine Ba ?_;have hno:p.holds (LI f (l.take k))=false:=by
    first
    |(simpa using hb3;done)
    |(exact R5 (by simpa using hb2))
   exact ja
  refine Bg ?_;have hyes:p.holds (LI f (l.take k))=true:=by simpa using hb3
  refine wk 7 ?_;refine aq 34 (AS rfl rfl hkl Bq) ?_;refine wk 2 ?_;exact⟨k+1,qV1 D5 yB,⟨by rw[NI f hp];exact(hH p hpm).1,Pv hp hF.2 hyes⟩,by omega⟩
 refine Bg ?_;have hge:l.length<=k:=by have h:=hb1;simp at h;omega
 have hE:I (LI f l)/\BS f (LI f l) l=true:=by have h:=hF;rwa[q20 hge]at h
 refine wk 2 ?_;rw[q20 hge];refine wk 2 ?_;refine ax 36 DB ?_;refine wk 2 ?_;refine ax 39 DB ?_;refine wk 1 ?_;refine ax 41 (Cn Tryz.func46 (nX ⟨0,[LI f l]⟩ ⟨0,[g]⟩ Aq (fun x hx=>by simp only[q47]at hx;subst hx;exact(hIb _ hE.1).big))) ?_;refine wk 2 ?_;refine CE ⟨[_],⟨rfl,trivial⟩,?_,rfl⟩;refine bc ?_;rw[RR hE.2]
 simp
theorem TU(f:BFunc)(hn:f.blocks.length<=100000)(hi:∀x∈f.blocks,x.ins.length<=100000):Pu Tryz.prog 132 [.agg f.cells] (.bool f.stands):=by
 refine qK5 (n:=65) Ah Tryz.func132 rfl rfl ?_;refine FL ?_;refine ax 1 (CC 2 0) ?_;refine wk 9 ?_;refine dx 14 (AK Ah (n:=f.blocks.length) (m:=f.blocks.length) 1 true (hby:=(by show 56*f.blocks.length<=_;omega))) ?_;refine wk 1 ?_;refine dx 3 (DA Ah 2) ?_;refine wk 11 ?_;refine Ap (γ:=Nat) 3 (fun k=>⟨65,(Aa (Aa (Aa (Aa (Aa AU 1 (pZ 0)) 3 (pZ 2)) 17 (BK f.blocks)) 18 (iN f.blocks.length)) 19 (iN k)),(Af (Af (Af (A0 3) 0 (rf 2 [f.cells])) 1 (rt 5 ((((f.blocks.map Block.bare).take (k)).map Block.cells)++List.replicate (f.blocks.length-(k)) [.nil,.int .i64 0,.int .i64 0,.int .i64 0,.int .i64 0]))) 2 (rf 2 [[.int .i64 f.regs,.ref 1 f.blocks.length 0 f.blocks.length]]))⟩) (fun k=>k<=f.blocks.length/\(f.blocks.take k).all (fun x=>x.ins.all Tac.callOk)=true) (fun k=>f.blocks.length-k) 0 (qJ1 Cq B5) ⟨qZ1 _,rfl⟩ (fun _=>Ac (B9) rfl) ?_
 intro k ⟨hk,hall⟩;refine wk 5 ?_;refine asp 20 (fun hb1=>?_) fun hb1=>?_
 .
  refine Ba ?_;have hkl:k<f.blocks.length:=by simpa using hb1
  obtain⟨x,hx⟩:=Ad hkl;have hxm:=q33 hx;refine wk 6 ?_;refine aq 22 (En Ah (Au hx)) ?_;refine wk 1 ?_;refine ax 5 (DA Ah 3) ?_;refine wk 8 ?_;refine ax 27 (AK Ah (n:=0) (m:=x.ins.length) 4 true rfl rfl rfl (rfl) Aq rfl rfl rfl rfl rfl (q68 _) rfl (qZ1 _) (by have:=hi x hxm;show 64*x.ins.length<=_;omega) jt) ?_;refine wk 11 ?_;refine Ap (γ:=Nat) 5 (fun j=>⟨65,(Aa (Aa (Aa (Aa (Aa (Aa (Aa (Aa (Aa (Aa (Aa AU 1 (pZ 0)) 3 (pZ 2)) 17 (BK f.blocks)) 18 (iN f.blocks.length)) 19 (iN k)) 4 (iN k)) 5 (pZ 3)) 6 (.ref 4 (Ee (x.ins.take j)).length 0 (Ee (x.ins.take j)).length)) 29 (CU x.ins)) 30 (iN x.ins.length)) 31 (iN j)),(Af (Af (Af (Af (Af (A0 5) 0 (rf 2 [f.cells])) 1 (rt 5 ((((f.blocks.map Block.bare).take (k)).map Block.cells)++List.replicate (f.blocks.length-(k)) [.nil,.int .i64 0,.int .i64 0,.int .i64 0,.int .i64 0]))) 2 (rf 2 [[.int .i64 f.regs,.ref 1 f.blocks.length 0 f.blocks.length]])) 3 (rf 5 [x.cells])) 4 (rt 8 ((Ee (x.ins.take j)).map Tac.cells)))⟩) (fun j=>j<=x.ins.length/\(x.ins.take j).all Tac.callOk=true) (fun j=>x.ins.length-j) 0 (qJ1 Cq B5) ⟨qZ1 _,rfl⟩ (fun _=>Ac (Ac (Ac (B9) rfl) rfl) rfl) ?_
  intro j ⟨hj,hja⟩;refine wk 5 ?_;refine asp 32 (fun hb2=>?_) fun hb2=>?_
  .
   refine Ba ?_;have hjl:j<x.ins.length:=by have h:=hb2;simp only[q76,q56]at h;omega
   obtain⟨t,ht⟩:=Ad hjl;refine wk 5 ?_;refine aq 33 (En Ah (Au ht)) ?_;refine wk 1 ?_;refine ax 8 (DA Ah 5) ?_;refine wk 5 ?_
   skip
   refine wk 4 ?_;refine asp 37 (fun hb3=>?_) fun hb3=>?_
   .
    refine Ba ?_;have h10:(t.op !=10)=true:=hb3;have hnc:=Rs ht h10;have hok:=OQ h10;refine wk 4 ?_;refine ax 40 DB ?_;refine ax 41 (E4 Ah (n:=(Ee (x.ins.take j)).length) (m:=1) rfl rfl rfl rfl rfl rfl rfl rfl rfl Qi rfl rfl (q68 _) (.lst _ _) O3 O4 rfl (by have h1:=Kw x.ins j;have h2:=hi x hxm;simp[A6];omega) xU) ?_;refine wk 4 ?_;exact xk
   refine Bg ?_;have h10:(t.op !=10)=false:=hb3;have hnc:=Uq ht h10;refine wk 7 ?_;refine BM 45 (fun hb4=>?_) fun hb4=>?_
   .
    refine wk 8 ?_;have hbad:=hb4;exact sQ
   have hb0:=hb4;refine wk 4 ?_;refine aq 50 (E0 Ah true rfl rfl rfl AF rfl rfl rfl rfl rfl) ?_;refine wk 2 ?_;refine asp 51 (fun hb5=>?_) fun hb5=>?_
   .
    refine Ba ?_;have hbad:=hb5;exact sQ
   refine Bg ?_;have hgood:=hb5;refine wk 2 ?_;exact xk
  refine Bg ?_;have hjge:x.ins.length<=j:=by have h:=hb2;simp only[q76,q16]at h;omega
  refine wk 2 ?_;refine qJ0 (.freezeAll0 6 4 rfl rfl Qi) ?_;rw[q20 hjge];refine wk 10 ?_;refine aq 59 (Ae Ah rfl rfl rfl rfl rfl rfl rfl (AL (by simp:(f.blocks.map Block.bare).length=f.blocks.length) (qX0 hkl)) rfl (q46 _) Ab) ?_;refine qK6 rfl rfl (AY Ah rfl rfl rfl rfl rfl rfl (AL (by simp:(f.blocks.map Block.bare).length=f.blocks.length) (qX0 hkl)) (CH (by simp:(f.blocks.map Block.bare).length=f.blocks.length) hkl) rfl Al rfl C1) ?_;refine wk 2 ?_;refine aq 60 (AS rfl rfl hkl (show f.blocks.length<=maxLen by simp only[maxLen];omega)) ?_;refine wk 2 ?_;exact⟨k+1,qV1 D5 (by repeat(first|exact qJ8 _ _|exact qV0 _ _|refine qJ9 ?_ (by first|rfl|exact congrArg (fun es=>some (rt 5 es)) (Ct (f:=Block.cells) (x:=x.bare) (by simp:(f.blocks.map Block.bare).length=f.blocks.length) (n9 hx))) rfl AE)),⟨hkl,Cv hx hall (CJ hja hjge)⟩,by omega⟩
 refine Bg ?_;have hge:f.blocks.length<=k:=by simpa using hb1
 refine wk 2 ?_;refine qJ0 (.freezeCell 2 0 1 1 rfl rfl rfl rfl (AL (by simp:(f.blocks.map Block.bare).length=f.blocks.length) hk) Al) ?_;rw[Dg (by simp:(f.blocks.map Block.bare).length=f.blocks.length) hge];refine wk 2 ?_;refine ax 62 DB ?_;refine wk 1 ?_;refine ax 64 (Cn Tryz.func33 (OR (Blocks.mk 1048576 [f.bare]))) ?_;exact rJ
theorem qM(E1 E2:List (List Int))(h1:∀x∈E1,x.length=6)(h2:∀x∈E2,x.length=6)(hl:E1.length<=100000):Ca Tryz.prog 134 [Bo 10 ((E1).map (Az .i64)),Bo 11 ((E2).map (Az .i64))] (Af (Af hNew 10 (BU 6 ((E1).map (Az .i64)))) 11 (BU 6 ((E2).map (Az .i64)))) (.bool (decide (E1=E2))) (Af (Af hNone 10 (BU 6 ((E1).map (Az .i64)))) 11 (BU 6 ((E2).map (Az .i64)))):=by
 refine qK4 (n:=26) Ah Tryz.func134 rfl rfl ?_;refine wk 8 ?_;refine aq 7 EU ?_;refine am 8 ?_;refine aq 9 EU ?_;refine wk 2 ?_;refine asp 10 (fun hb1=>?_) fun hb1=>?_
 .
  refine Ba ?_;have hne:E1.length≠E2.length:=by have h:=hb1;simp only[q76,bne_iff_ne,ne_eq,Int.natCast_inj]at h;exact h
  refine wk 5 ?_;refine⟨[_],⟨rfl,trivial⟩,?_,qJ5 (qJ5 (qJ6 _) rfl) rfl⟩;refine bc ?_;exact(q89 (fun e=>hne (by rw[e]))).symm
 refine Bg ?_;have hel:E1.length=E2.length:=by have h:=hb1;simp only[q76,bne_eq_false_iff_eq,Int.natCast_inj]at h;exact h
 refine wk 5 ?_;refine aq 12 EU ?_;refine wk 3 ?_;refine Ap (γ:=Nat) 12 (fun k=>⟨26,(Aa (Aa (Aa (Aa AU 0 (Bo 10 ((E1).map (Az .i64)))) 1 (Bo 11 ((E2).map (Az .i64)))) 12 (.int .i64 (((E1).map (Az .i64)).length:Int))) 13 (iN k)),(Af (Af (A0 12) 10 (BU 6 ((E1).map (Az .i64)))) 11 (BU 6 ((E2).map (Az .i64))))⟩) (fun k=>k<=E1.length/\E1.take k=E2.take k) (fun k=>E1.length-k) 0 (qJ1 B4 B5) ⟨qZ1 _,rfl⟩ (fun _=>B9) ?_;intro k ⟨hk,htk⟩;refine wk 5 ?_;refine asp 14 (fun hb2=>?_) fun hb2=>?_
 .
  refine Ba ?_;have hkl:k<E1.length:=by have h:=hb2;simp only[q76,q56]at h;omega
  obtain⟨x,hx⟩:=Ad hkl;obtain⟨y,hy⟩:=Ad (l:=E2) (k:=k) Ab;refine wk 12 ?_;refine dq 18 (Bl Ah (h0:=(q46 _)) (hn:=Kf)) ?_;refine dq 19 (Ao Ah rfl rfl rfl (I8 rfl (dP hx)) (XZ rfl (by rw[h1 _ (q33 hx)]))) ?_;refine wk 2 ?_;refine dq 22 (Bl Ah (h0:=(q46 _)) (hn:=Kf)) ?_;refine dq 23 (Ao Ah rfl rfl rfl (I8 rfl (dP hy)) (XZ rfl (by rw[h2 _ (q33 hy)]))) ?_;refine dq 24 (lC Ah (K:=.i64) (l1:=x) (l2:=y) true rfl rfl rfl AF rfl rfl rfl rfl (by rw[h1 _ (q33 hx)]) (by rw[h2 _ (q33 hy)]) AF) ?_;refine wk 1 ?_;refine asp 24 (fun hb3=>?_) fun hb3=>?_
  .
   refine Ba ?_;have hxy:¬x=y:=by have h:=hb3;simpa using h
   refine wk 5 ?_;refine⟨[_],⟨rfl,trivial⟩,?_,qJ5 (qJ5 (qJ6 _) rfl) rfl⟩;refine bc ?_;exact(q89 (fun e=>by subst e;rw[hx]at hy;exact hxy (q86 hy))).symm
  refine Bg ?_;have hxy:x=y:=by have h:=hb3;simpa using h
  subst hxy;refine wk 2 ?_;refine aq 25 (AS rfl rfl hkl Bq) ?_;refine wk 2 ?_;exact⟨k+1,qV1 D5 FM,⟨hkl,MN htk hx hy⟩,by omega⟩
 refine Bg ?_;have hge:E1.length<=k:=by have h:=hb2;simp only[q76,q16]at h;omega
 refine wk 6 ?_;refine⟨[_],⟨rfl,trivial⟩,?_,qJ5 (qJ5 (qJ6 _) rfl) rfl⟩;refine bc ?_;exact(q96 (HT htk hge Ab)).symm
theorem Jc(first:Int)(K:List (List Int))(hf:0<=first/\first<=100000)(h4:∀k∈K,k.length=4)(hK:K.length<=100000)(a b c d:Int):Ca Tryz.prog 135 [.ptr 4 1 0 0,.agg [.int .i64 a,.int .i64 b,.int .i64 c,.int .i64 d]] (Af (Af (Af hNew 3 (.map (C5 .i64 (DJ first (K))))) 4 (rf 3 [[.int .i64 first,.map 3,Bo 9 ((K).map (Az .i64))]])) 9 (BU 4 ((K).map (Az .i64)))) (.int .i64 (D0 first K [a,b,c,d]).1) (Af (Af (Af hNone 3 (.map (C5 .i64 (DJ first ((D0 first K [a,b,c,d]).2))))) 4 (rf 3 [[.int .i64 first,.map 3,Bo 9 (((D0 first K [a,b,c,d]).2).map (Az .i64))]])) 9 (BU 4 (((D0 first K [a,b,c,d]).2).map (Az .i64)))):=by
 refine qK4 (n:=45) Ah Tryz.func135 rfl rfl ?_;refine FL ?_;refine ax 3 (CC 4 12) ?_;refine wk 9 ?_;refine dq 13 (Xy Ah (z:=[a,b,c,d]) (m:=DJ first K) (n:=4) (zv:=.int .i64 0) rfl rfl rfl rfl rfl rfl rfl rfl rfl rfl AF rfl (Ty h4) AF rfl) ?_;refine wk 12 ?_;refine asp 17 (fun hb1=>?_) fun hb1=>?_
 .
  refine Ba ?_;have hn:kidx [a,b,c,d] K=none:=yE (hb1);refine wk 10 ?_;refine dq 26 EU ?_;refine dq 27 (A9 (r:=.int .i64 (first+(K.length:Int))) rfl rfl rfl (by rw[q76];exact wB Ab Ab rfl)) ?_;refine wk 10 ?_;refine qK8 rfl rfl (V4 Ah (z:=[a,b,c,d]) (m:=DJ first K) (n:=4) rfl rfl rfl rfl rfl rfl rfl rfl rfl rfl rfl rfl rfl AF rfl (Ty h4)) ?_;refine wk 8 ?_;refine dx 40 DB ?_;refine dx 41 (CF Ah (b:=9) (es:=((K).map (Az .i64))) rfl rfl rfl rfl rfl rfl rfl rfl rfl rfl rfl (q68 _) (Wz h4) (SF _) rfl rfl (by rw[q76];show _*32<=_;omega) Tp) ?_;refine wk 2 ?_;refine qK8 rfl rfl (CS Ah rfl rfl rfl rfl rfl rfl rfl rfl rfl (Cx _ _) Al (CL _ _) D6) ?_;exact tH
 refine Bg ?_;obtain⟨i,hi⟩:∃i,kidx [a,b,c,d] K=some i:=yD (hb1)
 exact tH
theorem KO(first:Int)(K:List (List Int))(hf:0<=first/\first<=100000)(h4:∀k∈K,k.length=4)(hK:K.length<=100000)(n:Int)(hn:0<=n/\n<first+K.length):Ca Tryz.prog 139 [.ptr 4 1 0 0,.int .i64 n] (Af (Af (Af hNew 3 (.map (C5 .i64 (DJ first (K))))) 4 (rf 3 [[.int .i64 first,.map 3,Bo 9 ((K).map (Az .i64))]])) 9 (BU 4 ((K).map (Az .i64)))) (.tup [.int .u32 (BE first K n).1,.bool (BE first K n).2]) (Af (Af (Af hNone 3 (.map (C5 .i64 (DJ first (K))))) 4 (rf 3 [[.int .i64 first,.map 3,Bo 9 ((K).map (Az .i64))]])) 9 (BU 4 ((K).map (Az .i64)))):=by
 refine qK4 (n:=31) Ah Tryz.func139 rfl rfl ?_;refine wk 15 ?_;refine asp 12 (fun hb1=>?_) fun hb1=>?_
 .
  refine Ba ?_;have hlo:=hb1;exact sK
 refine Bg ?_;obtain⟨hi1,hi2,a,b,c,d,hg,hv⟩:=AbQ h4 hn hb1;refine wk 12 ?_;refine dq 22 (A9 (r:=.int .i64 (n-first)) rfl rfl rfl (vi Ab Ab rfl)) ?_;refine dq 23 (Bl Ah (h0:=hi1) (hn:=hi2)) ?_;refine dq 24 (Ao Ah rfl rfl rfl (I8 rfl hg) rfl) ?_;refine dx 6 (DA Ah 12) ?_;refine wk 4 ?_;refine dq 25 (Pk Ah rfl rfl rfl rfl rfl rfl Al Al rfl) ?_;refine wk 2 ?_;refine dq 28 (Pk Ah rfl rfl rfl rfl rfl rfl Al Al rfl) ?_;exact sK
theorem ZA(first:Int)(K:List (List Int))(hf:0<=first/\first<=100000)(h4:∀k∈K,k.length=4)(hK:K.length<=100000)(op a b:Int)(ha:0<=a/\a<first+K.length)(hb:0<=b/\b<first+K.length):Ca Tryz.prog 140 [.ptr 4 1 0 0,.int .i64 op,.int .i64 a,.int .i64 b] (Af (Af (Af hNew 3 (.map (C5 .i64 (DJ first (K))))) 4 (rf 3 [[.int .i64 first,.map 3,Bo 9 ((K).map (Az .i64))]])) 9 (BU 4 ((K).map (Az .i64)))) (.int .i64 (CA first K op a b).1) (Af (Af (Af hNone 3 (.map (C5 .i64 (DJ first ((CA first K op a b).2))))) 4 (rf 3 [[.int .i64 first,.map 3,Bo 9 (((CA first K op a b).2).map (Az .i64))]])) 9 (BU 4 (((CA first K op a b).2).map (Az .i64)))):=by
 refine qK4 (n:=51) Ah Tryz.func140 rfl rfl ?_;refine wk 8 ?_;refine ax 18 (GD (KO first K hf h4 hK a ha) [9,4,3] [(3,(.map (C5 .i64 (DJ first (K))))),(4,(rf 3 [[.int .i64 first,.map 3,Bo 9 ((K).map (Az .i64))]])),(9,(BU 4 ((K).map (Az .i64))))] rfl Tryz.func139 AF rfl rfl rfl ⟨⟨_,rfl,AE⟩,⟨_,rfl,AE⟩,⟨_,rfl,AE⟩,trivial⟩ rfl Cf ⟨⟨_,rfl,rfl,AE⟩,⟨_,rfl,rfl,AE⟩,⟨_,rfl,rfl,AE⟩,trivial⟩ rfl) ?_;refine wk 10 ?_;refine ax 24 (GD (KO first K hf h4 hK b hb) [9,4,3] [(3,(.map (C5 .i64 (DJ first (K))))),(4,(rf 3 [[.int .i64 first,.map 3,Bo 9 ((K).map (Az .i64))]])),(9,(BU 4 ((K).map (Az .i64))))] rfl Tryz.func139 AF rfl rfl rfl ⟨⟨_,rfl,AE⟩,⟨_,rfl,AE⟩,⟨_,rfl,AE⟩,trivial⟩ rfl Cf ⟨⟨_,rfl,rfl,AE⟩,⟨_,rfl,rfl,AE⟩,⟨_,rfl,rfl,AE⟩,trivial⟩ rfl) ?_;refine wk 11 ?_;refine BM 28 (fun hb1=>?_) fun hb1=>?_
 .
  refine wk 3 ?_;refine asp 30 (fun hb2=>?_) fun hb2=>?_
  .
   refine wk 6 ?_;refine ax 35 (Cn Tryz.func96 (YU op _ _ (Qv first K b).1)) ?_;refine wk 11 ?_;refine asp 39 (fun hb3=>?_) fun hb3=>?_
   .
    refine wk 5 ?_;refine aq 42 (FC Ah rfl rfl rfl rfl rfl (r:=(Cp op (BE first K a).1 (BE first K b).1).1) (by have h:=HF (op:=op) (Qv first K a) (Qv first K b);obtain⟨h1,h2⟩:=h;exact B8 Ab Ab)) ?_;refine aq 43 Qk ?_;refine ax 44 (GD (Jc first K hf h4 hK 1 (Cp op (BE first K a).1 (BE first K b).1).1 0 0) [9,4,3] [(3,(.map (C5 .i64 (DJ first ((D0 first K [1,(Cp op (BE first K a).1 (BE first K b).1).1,0,0]).2))))),(4,(rf 3 [[.int .i64 first,.map 3,Bo 9 (((D0 first K [1,(Cp op (BE first K a).1 (BE first K b).1).1,0,0]).2).map (Az .i64))]])),(9,(BU 4 (((D0 first K [1,(Cp op (BE first K a).1 (BE first K b).1).1,0,0]).2).map (Az .i64))))] rfl Tryz.func135 AF rfl rfl rfl ⟨⟨_,rfl,AE⟩,⟨_,rfl,AE⟩,⟨_,rfl,AE⟩,trivial⟩ rfl Cf ⟨⟨_,rfl,rfl,AE⟩,⟨_,rfl,rfl,AE⟩,⟨_,rfl,rfl,AE⟩,trivial⟩ rfl) ?_;refine wk 3 ?_
    first
    |(refine⟨[_],⟨rfl,trivial⟩,?_,?_⟩<;>rw[W2 BR BR BR]<;>first|rfl|exact qJ5 (qJ5 (qJ5 (qJ6 _) rfl) rfl) rfl)
   refine wk 8 ?_;exact zt9
  refine wk 8 ?_;exact zt9
 refine wk 11 ?_;exact zt9
theorem F0(first:Int)(R m:Nat)(w:VW)(h:VOk first R m w)(hm:m<=90000)(t:Tac)(a b:Int):∀jp jv jo:Nat,WD jp jv jo->Ca Tryz.prog 137 [.ptr jp 1 0 0,.agg t.cells,.int .i64 a,.int .i64 b] (vH jp jv jo first hNew w) (.tup []) (vH jp jv jo first hNone ((w.hap t a b))):=by
 refine t3 ?_ ?_;all_goals
  intro jp jv jo;have hP:WD jp jv jo:=by first|exact .a|exact .b
  have hel:=h.el;refine qK4 (n:=26) Ah Tryz.func137 rfl rfl ?_;refine FL ?_;refine ax 5 (CC 8 12) ?_;refine wk 15 ?_;refine dq 21 Qk ?_;refine dx 22 DB ?_;refine dx 23 (CF Ah (b:=jo) (es:=((w.effs).map (Az .i64))) rfl rfl rfl rfl rfl rfl rfl rfl rfl rfl rfl (q68 _) (Wz h.e6) (SF _) rfl rfl jy Tp) ?_;refine wk 2 ?_;refine qK8 rfl rfl (CS Ah rfl rfl rfl rfl rfl rfl rfl rfl rfl (Cx _ _) Al (CL _ _) D6) ?_;refine wk 1 ?_;refine⟨[],trivial,rfl,?_⟩;exact qJ5 (qJ5 (qJ5 (qJ5 (qJ5 (qJ5 (qJ6 _) rfl) rfl) rfl) (by show _=some (rf 4 [[.ptr 4 1 0 0,GB jv (A5 (w.vals)),Bo jo ((w.effs++[_]).map (Az .i64)),.int .i64 w.time]]);rw[q77];rfl)) rfl) (by show _=some (BU 6 ((w.effs++[_]).map (Az .i64)));rw[q77];rfl)
theorem Pa(first:Int)(R m:Nat)(w:VW)(h:VOk first R m w)(hm:m<=90000):∀jp jv jo:Nat,WD jp jv jo->Ca Tryz.prog 138 [.ptr jp 1 0 0] (vH jp jv jo first hNew w) (.int .i64 (J8 first w).1) (Af (Af (Af (Af (Af (Af hNone 3 (.map (C5 .i64 (DJ first ((J8 first w).2))))) 4 (rf 3 [[.int .i64 first,.map 3,Bo 9 (((J8 first w).2).map (Az .i64))]])) 9 (BU 4 (((J8 first w).2).map (Az .i64)))) jp (rf 4 [[.ptr 4 1 0 0,GB jv (A5 ((w).vals)),Bo jo (((w).effs).map (Az .i64)),.int .i64 ((w).time)]])) jv (Il (A5 ((w).vals)))) jo (BU 6 (((w).effs).map (Az .i64)))):=by
 refine t3 ?_ ?_;all_goals
  intro jp jv jo;have hP:WD jp jv jo:=by first|exact .a|exact .b
  have hkl:=h.kl;refine qK4 (n:=14) Ah Tryz.func138 rfl rfl ?_;refine wk 14 ?_;refine dq 11 EU ?_;refine dq 12 Qk ?_;refine dx 13 (GD ((by rw[q76];exact Jc first w.K h.f h.k4 Ab 4 (w.effs.length:Int) 0 0)) [9,4,3] [(3,(.map (C5 .i64 (DJ first ((J8 first w).2))))),(4,(rf 3 [[.int .i64 first,.map 3,Bo 9 (((J8 first w).2).map (Az .i64))]])),(9,(BU 4 (((J8 first w).2).map (Az .i64))))] rfl Tryz.func135 AF rfl rfl rfl ⟨⟨_,rfl,AE⟩,⟨_,rfl,AE⟩,⟨_,rfl,AE⟩,trivial⟩ rfl Cf ⟨⟨_,rfl,rfl,AE⟩,⟨_,rfl,rfl,AE⟩,⟨_,rfl,rfl,AE⟩,trivial⟩ rfl) ?_;refine wk 3 ?_;refine⟨[_],⟨rfl,trivial⟩,rfl,?_⟩;exact Ze
theorem wu(first:Int)(w:VW)(t:Tac):w.bin first t=⟨(CA first w.K t.k (Ai w.vals t.a) (Ai w.vals t.b)).2,A4 w.vals t.d (CA first w.K t.k (Ai w.vals t.a) (Ai w.vals t.b)).1,(w.div first t).effs,w.time⟩:=by
 cases hr:vrisky first w t with
 |true=>rw[qY hr];simp only[VW.div,hr,qZ7]
 |false=>rw[wq hr];simp only[VW.div,hr,qZ3]
theorem bu(first:Int)(R m:Nat)(w:VW)(h:VOk first R m w)(hm:m<=90000)(t:Tac)(hd:0<=t.d/\t.d<R)(ha:0<=t.a/\t.a<R)(hb:0<=t.b/\t.b<R):∀jp jv jo:Nat,WD jp jv jo->Ca Tryz.prog 136 [.ptr jp 1 0 0,.agg t.cells] (vH jp jv jo first hNew w) (.tup []) (vH jp jv jo first hNone ((w.bin first t))):=by
 refine t3 ?_ ?_;all_goals
  intro jp jv jo;have hP:WD jp jv jo:=by first|exact .a|exact .b
  have hel:=h.el;have hkl:=h.kl;have hxd:=h.at hd;have hxa:=h.at ha;have hxb:=h.at hb;refine qK4 (n:=77) Ah Tryz.func136 rfl rfl ?_;refine FL ?_;refine ax 3 (CC 8 12) ?_;refine wk 9 ?_;refine dq 14 (Ce Ah rfl rfl rfl rfl rfl rfl rfl rfl hxa.1 hxa.2.2.1) ?_;refine dq 15 (Ao Ah rfl rfl rfl (Nb rfl (BI ⟨hxa.1,hxa.2.1⟩)) rfl) ?_;refine wk 6 ?_;refine dq 22 (Ce Ah rfl rfl rfl rfl rfl rfl rfl rfl hxb.1 hxb.2.2.1) ?_;refine dq 23 (Ao Ah rfl rfl rfl (Nb rfl (BI ⟨hxb.1,hxb.2.1⟩)) rfl) ?_;refine wk 5 ?_;refine qV2 (γ:=Unit) (fun _u=>⟨77,(Aa (Aa (Aa (Aa (Aa AU 0 (pZ jp)) 3 (pZ 12)) 4 (.int .i64 (Ai w.vals t.a))) 5 (.int .i64 (Ai w.vals t.b))) 31 (.bool (t.k==7||t.k==8))),(vH jp jv jo first (Af (A0 13) 12 (rf 8 [t.cells])) w)⟩) (fun _u=>True) ?_ ?_
  .
   refine wk 5 ?_;refine BM 27 (fun hb1=>?_) fun hb1=>?_
   .
    exact wQ
   exact wQ
  intro _u _;refine qV2 (γ:=Unit) (fun _u=>⟨77,(Aa (Aa (Aa (Aa AU 0 (pZ jp)) 3 (pZ 12)) 4 (.int .i64 (Ai w.vals t.a))) 5 (.int .i64 (Ai w.vals t.b))),(Af (Af (Af (Af (Af (Af (Af (A0 13) 12 (rf 8 [t.cells])) 3 (.map (C5 .i64 (DJ first (w.K))))) 4 (rf 3 [[.int .i64 first,.map 3,Bo 9 ((w.K).map (Az .i64))]])) 9 (BU 4 ((w.K).map (Az .i64)))) jp (rf 4 [[.ptr 4 1 0 0,GB jv (A5 ((w).vals)),Bo jo (((w.div first t).effs).map (Az .i64)),.int .i64 (w.time)]])) jv (Il (A5 ((w).vals)))) jo (BU 6 (((w.div first t).effs).map (Az .i64))))⟩) (fun _u=>True) ?_ ?_
  .
   refine asp 31 (fun hb2=>?_) fun hb2=>?_
   .
    refine wk 8 ?_;refine ax 38 (GD (KO first w.K h.f h.k4 Ab (Ai w.vals t.b) hxb.2.2.2) [9,4,3] [(3,(.map (C5 .i64 (DJ first (w.K))))),(4,(rf 3 [[.int .i64 first,.map 3,Bo 9 ((w.K).map (Az .i64))]])),(9,(BU 4 ((w.K).map (Az .i64))))] rfl Tryz.func139 AF rfl rfl rfl ⟨⟨_,rfl,AE⟩,⟨_,rfl,AE⟩,⟨_,rfl,AE⟩,trivial⟩ rfl Cf ⟨⟨_,rfl,rfl,AE⟩,⟨_,rfl,rfl,AE⟩,⟨_,rfl,rfl,AE⟩,trivial⟩ rfl) ?_;refine wk 11 ?_;refine BM 43 (fun hb3=>?_) fun hb3=>?_
    .
     refine wk 15 ?_;exact xe
    refine wk 4 ?_;refine asp 46 (fun hb4=>?_) fun hb4=>?_
    .
     refine wk 11 ?_;exact xe
    refine wk 2 ?_;exact uI
   refine wk 2 ?_;exact uI
  intro _u _;refine wk 15 ?_;refine dx 75 (GD (ZA first w.K h.f h.k4 Ab t.k (Ai w.vals t.a) (Ai w.vals t.b) hxa.2.2.2 hxb.2.2.2) [9,4,3] [(3,(.map (C5 .i64 (DJ first ((CA first w.K t.k (Ai w.vals t.a) (Ai w.vals t.b)).2))))),(4,(rf 3 [[.int .i64 first,.map 3,Bo 9 (((CA first w.K t.k (Ai w.vals t.a) (Ai w.vals t.b)).2).map (Az .i64))]])),(9,(BU 4 (((CA first w.K t.k (Ai w.vals t.a) (Ai w.vals t.b)).2).map (Az .i64))))] rfl Tryz.func140 AF rfl rfl rfl ⟨⟨_,rfl,AE⟩,⟨_,rfl,AE⟩,⟨_,rfl,AE⟩,trivial⟩ rfl Cf ⟨⟨_,rfl,rfl,AE⟩,⟨_,rfl,rfl,AE⟩,⟨_,rfl,rfl,AE⟩,trivial⟩ rfl) ?_;refine dq 76 (Ce Ah rfl rfl rfl rfl rfl rfl rfl rfl hxd.1 hxd.2.2.1) ?_;refine qK8 rfl rfl (Gk Ah rfl rfl rfl rfl rfl rfl rfl To (CP _) rfl rfl rfl) ?_;refine wk 1 ?_;refine⟨[],trivial,rfl,?_⟩;rw[wu];exact qJ5 (qJ5 (qJ5 (qJ5 (qJ5 (qJ5 (qJ6 _) rfl) rfl) rfl) (by show _=some (rf 4 [[.ptr 4 1 0 0,GB jv (A5 (A4 w.vals t.d _)),Bo jo ((w.div first t).effs.map (Az .i64)),.int .i64 w.time]]);rw[ME];rfl)) oZ) rfl
theorem Tw(first:Int)(R m:Nat)(w:VW)(h:VOk first R m w)(hm:m<=80000)(t:Tac)(ht:Kb t R):∀jp jv jo:Nat,WD jp jv jo->Ca Tryz.prog 133 [.ptr jp 1 0 0,.agg t.cells] (vH jp jv jo first hNew w) (.tup []) (vH jp jv jo first hNone ((w.step first t))):=by
 refine t3 ?_ ?_;all_goals
  intro jp jv jo;have hP:WD jp jv jo:=by first|exact .a|exact .b
  have hel:=h.el;have hkl:=h.kl;have htl:=h.tl;refine qK4 (n:=148) Ah Tryz.func133 rfl rfl ?_;refine FL ?_;refine ax 3 (CC 8 12) ?_;refine wk 20 ?_;refine asp 11 (fun hb1=>?_) fun hb1=>?_
  .
   refine Ba ?_;have ho:t.op=1:=by simpa using hb1
   have hxd:=h.at (ht.d B2);refine wk 10 ?_;refine dq 22 (FC Ah rfl rfl rfl rfl rfl (r:=t.n) (by obtain⟨h1,h2⟩:=ht.n;exact B8 Ab Ab)) ?_;refine dq 23 Qk ?_;refine dx 24 (GD (Jc first w.K h.f h.k4 Ab (1) (t.n) (0) (0)) [9,4,3] [(3,(.map (C5 .i64 (DJ first ((D0 first w.K [1,t.n,0,0]).2))))),(4,(rf 3 [[.int .i64 first,.map 3,Bo 9 (((D0 first w.K [1,t.n,0,0]).2).map (Az .i64))]])),(9,(BU 4 (((D0 first w.K [1,t.n,0,0]).2).map (Az .i64))))] rfl Tryz.func135 AF rfl rfl rfl ⟨⟨_,rfl,AE⟩,⟨_,rfl,AE⟩,⟨_,rfl,AE⟩,trivial⟩ rfl Cf ⟨⟨_,rfl,rfl,AE⟩,⟨_,rfl,rfl,AE⟩,⟨_,rfl,rfl,AE⟩,trivial⟩ rfl) ?_;refine dq 25 (Ce Ah rfl rfl rfl rfl rfl rfl rfl rfl hxd.1 hxd.2.2.1) ?_;refine qK8 rfl rfl (Gk Ah rfl rfl rfl rfl rfl rfl rfl To (CP _) rfl rfl rfl) ?_;refine wk 1 ?_;refine⟨[],trivial,rfl,?_⟩;rw[jX ho];exact uA
  refine wk 6 ?_;refine asp 26 (fun hb2=>?_) fun hb2=>?_
  .
   refine Ba ?_;have ho:t.op=2:=by simpa using hb2
   have hxd:=h.at (ht.d B2);have hxa:=h.at (ht.a (.inl B2));refine wk 7 ?_;refine dq 34 (Ce Ah rfl rfl rfl rfl rfl rfl rfl rfl hxa.1 hxa.2.2.1) ?_;refine dq 35 (Ao Ah rfl rfl rfl (Nb rfl (BI ⟨hxa.1,hxa.2.1⟩)) rfl) ?_;refine dq 36 (Ce Ah rfl rfl rfl rfl rfl rfl rfl rfl hxd.1 hxd.2.2.1) ?_;refine qK8 rfl rfl (Gk Ah rfl rfl rfl rfl rfl rfl rfl To (CP _) rfl rfl rfl) ?_;refine wk 1 ?_;refine⟨[],trivial,rfl,?_⟩;rw[jW ho];exact uA
  refine wk 6 ?_;refine asp 37 (fun hb3=>?_) fun hb3=>?_
  .
   refine Ba ?_;have ho:t.op=3:=by simpa using hb3
   refine wk 3 ?_;refine ax 41 (GD (bu first R m w h Ab t (ht.d B2) (ht.a (.inr B2)) (ht.b B2) jp jv jo hP) [jo,jv,jp,9,4,3] [(3,(.map (C5 .i64 (DJ first (((w.bin first t)).K))))),(4,(rf 3 [[.int .i64 first,.map 3,Bo 9 ((((w.bin first t)).K).map (Az .i64))]])),(9,(BU 4 ((((w.bin first t)).K).map (Az .i64)))),(jp,(rf 4 [[.ptr 4 1 0 0,GB jv (A5 (((w.bin first t)).vals)),Bo jo ((((w.bin first t)).effs).map (Az .i64)),.int .i64 (((w.bin first t)).time)]])),(jv,(Il (A5 (((w.bin first t)).vals)))),(jo,(BU 6 ((((w.bin first t)).effs).map (Az .i64))))] rfl Tryz.func136 AF rfl rfl rfl ⟨⟨_,rfl,AE⟩,⟨_,rfl,AE⟩,⟨_,rfl,AE⟩,⟨_,rfl,AE⟩,⟨_,rfl,AE⟩,⟨_,rfl,AE⟩,trivial⟩ rfl Cf ⟨⟨_,rfl,rfl,AE⟩,⟨_,rfl,rfl,AE⟩,⟨_,rfl,rfl,AE⟩,⟨_,rfl,rfl,AE⟩,⟨_,rfl,rfl,AE⟩,⟨_,rfl,rfl,AE⟩,trivial⟩ rfl) ?_;refine an ?_;refine⟨[],trivial,rfl,?_⟩;rw[jV ho];exact Ze
  refine wk 6 ?_;refine asp 42 (fun hb4=>?_) fun hb4=>?_
  .
   refine Ba ?_;have ho:t.op=4:=by simpa using hb4
   have hxd:=h.at (ht.d B2);refine wk 14 ?_;refine dq 57 Qk ?_;refine dx 58 (GD (Jc first w.K h.f h.k4 Ab (3) (t.base) (w.time) (0)) [9,4,3] [(3,(.map (C5 .i64 (DJ first ((D0 first w.K [3,t.base,w.time,0]).2))))),(4,(rf 3 [[.int .i64 first,.map 3,Bo 9 (((D0 first w.K [3,t.base,w.time,0]).2).map (Az .i64))]])),(9,(BU 4 (((D0 first w.K [3,t.base,w.time,0]).2).map (Az .i64))))] rfl Tryz.func135 AF rfl rfl rfl ⟨⟨_,rfl,AE⟩,⟨_,rfl,AE⟩,⟨_,rfl,AE⟩,trivial⟩ rfl Cf ⟨⟨_,rfl,rfl,AE⟩,⟨_,rfl,rfl,AE⟩,⟨_,rfl,rfl,AE⟩,trivial⟩ rfl) ?_;refine dq 59 (Ce Ah rfl rfl rfl rfl rfl rfl rfl rfl hxd.1 hxd.2.2.1) ?_;refine qK8 rfl rfl (Gk Ah rfl rfl rfl rfl rfl rfl rfl To (CP _) rfl rfl rfl) ?_;refine wk 1 ?_;refine⟨[],trivial,rfl,?_⟩;rw[jU ho];exact uA
  refine wk 6 ?_;refine asp 60 (fun hb5=>?_) fun hb5=>?_
  .
   refine Ba ?_;have ho:t.op=5:=by simpa using hb5
   have hxa:=h.at (ht.a (.inl B2));refine wk 7 ?_;refine dq 67 (Ce Ah rfl rfl rfl rfl rfl rfl rfl rfl hxa.1 hxa.2.2.1) ?_;refine dq 68 (Ao Ah rfl rfl rfl (Nb rfl (BI ⟨hxa.1,hxa.2.1⟩)) rfl) ?_;refine dx 69 (GD (F0 first R m w h Ab t (Ai w.vals t.a) 0 jp jv jo hP) [jo,jv,jp,9,4,3] [(3,(.map (C5 .i64 (DJ first (((w.hap t (Ai w.vals t.a) 0)).K))))),(4,(rf 3 [[.int .i64 first,.map 3,Bo 9 ((((w.hap t (Ai w.vals t.a) 0)).K).map (Az .i64))]])),(9,(BU 4 ((((w.hap t (Ai w.vals t.a) 0)).K).map (Az .i64)))),(jp,(rf 4 [[.ptr 4 1 0 0,GB jv (A5 (((w.hap t (Ai w.vals t.a) 0)).vals)),Bo jo ((((w.hap t (Ai w.vals t.a) 0)).effs).map (Az .i64)),.int .i64 (((w.hap t (Ai w.vals t.a) 0)).time)]])),(jv,(Il (A5 (((w.hap t (Ai w.vals t.a) 0)).vals)))),(jo,(BU 6 ((((w.hap t (Ai w.vals t.a) 0)).effs).map (Az .i64))))] rfl Tryz.func137 AF rfl rfl rfl ⟨⟨_,rfl,AE⟩,⟨_,rfl,AE⟩,⟨_,rfl,AE⟩,⟨_,rfl,AE⟩,⟨_,rfl,AE⟩,⟨_,rfl,AE⟩,trivial⟩ rfl Cf ⟨⟨_,rfl,rfl,AE⟩,⟨_,rfl,rfl,AE⟩,⟨_,rfl,rfl,AE⟩,⟨_,rfl,rfl,AE⟩,⟨_,rfl,rfl,AE⟩,⟨_,rfl,rfl,AE⟩,trivial⟩ rfl) ?_
   refine wk 6 ?_;refine aq 74 (A9 (r:=.int .i64 (w.time+1)) rfl rfl rfl Tl) ?_;refine wk 4 ?_;refine⟨[],trivial,rfl,?_⟩;rw[jT ho];exact Ze
  refine wk 6 ?_;refine asp 77 (fun hb6=>?_) fun hb6=>?_
  .
   refine Ba ?_;have ho:t.op=6:=by simpa using hb6
   have hxd:=h.at (ht.d B2);have hxa:=h.at (ht.a (.inl B2));refine wk 7 ?_;refine dq 84 (Ce Ah rfl rfl rfl rfl rfl rfl rfl rfl hxa.1 hxa.2.2.1) ?_;refine dq 85 (Ao Ah rfl rfl rfl (Nb rfl (BI ⟨hxa.1,hxa.2.1⟩)) rfl) ?_;refine dx 86 (GD (F0 first R m w h Ab t (Ai w.vals t.a) 0 jp jv jo hP) [jo,jv,jp,9,4,3] [(3,(.map (C5 .i64 (DJ first (((w.hap t (Ai w.vals t.a) 0)).K))))),(4,(rf 3 [[.int .i64 first,.map 3,Bo 9 ((((w.hap t (Ai w.vals t.a) 0)).K).map (Az .i64))]])),(9,(BU 4 ((((w.hap t (Ai w.vals t.a) 0)).K).map (Az .i64)))),(jp,(rf 4 [[.ptr 4 1 0 0,GB jv (A5 (((w.hap t (Ai w.vals t.a) 0)).vals)),Bo jo ((((w.hap t (Ai w.vals t.a) 0)).effs).map (Az .i64)),.int .i64 (((w.hap t (Ai w.vals t.a) 0)).time)]])),(jv,(Il (A5 (((w.hap t (Ai w.vals t.a) 0)).vals)))),(jo,(BU 6 ((((w.hap t (Ai w.vals t.a) 0)).effs).map (Az .i64))))] rfl Tryz.func137 AF rfl rfl rfl ⟨⟨_,rfl,AE⟩,⟨_,rfl,AE⟩,⟨_,rfl,AE⟩,⟨_,rfl,AE⟩,⟨_,rfl,AE⟩,⟨_,rfl,AE⟩,trivial⟩ rfl Cf ⟨⟨_,rfl,rfl,AE⟩,⟨_,rfl,rfl,AE⟩,⟨_,rfl,rfl,AE⟩,⟨_,rfl,rfl,AE⟩,⟨_,rfl,rfl,AE⟩,⟨_,rfl,rfl,AE⟩,trivial⟩ rfl) ?_
   refine wk 6 ?_;refine dx 91 (GD (Pa first R (m+1) (w.hap t (Ai w.vals t.a) 0) (h.eff rfl) Ab jp jv jo hP) [jo,jv,jp,9,4,3] [(3,(.map (C5 .i64 (DJ first ((J8 first (w.hap t (Ai w.vals t.a) 0)).2))))),(4,(rf 3 [[.int .i64 first,.map 3,Bo 9 (((J8 first (w.hap t (Ai w.vals t.a) 0)).2).map (Az .i64))]])),(9,(BU 4 (((J8 first (w.hap t (Ai w.vals t.a) 0)).2).map (Az .i64)))),(jp,(rf 4 [[.ptr 4 1 0 0,GB jv (A5 (((w.hap t (Ai w.vals t.a) 0)).vals)),Bo jo ((((w.hap t (Ai w.vals t.a) 0)).effs).map (Az .i64)),.int .i64 (((w.hap t (Ai w.vals t.a) 0)).time)]])),(jv,(Il (A5 (((w.hap t (Ai w.vals t.a) 0)).vals)))),(jo,(BU 6 ((((w.hap t (Ai w.vals t.a) 0)).effs).map (Az .i64))))] rfl Tryz.func138 AF rfl rfl rfl ⟨⟨_,rfl,AE⟩,⟨_,rfl,AE⟩,⟨_,rfl,AE⟩,⟨_,rfl,AE⟩,⟨_,rfl,AE⟩,⟨_,rfl,AE⟩,trivial⟩ rfl Cf ⟨⟨_,rfl,rfl,AE⟩,⟨_,rfl,rfl,AE⟩,⟨_,rfl,rfl,AE⟩,⟨_,rfl,rfl,AE⟩,⟨_,rfl,rfl,AE⟩,⟨_,rfl,rfl,AE⟩,trivial⟩ rfl) ?_
   refine dq 92 (Ce Ah rfl rfl rfl rfl rfl rfl rfl rfl hxd.1 hxd.2.2.1) ?_;refine qK8 rfl rfl (Gk Ah rfl rfl rfl rfl rfl rfl rfl To (CP _) rfl rfl rfl) ?_;refine wk 1 ?_;refine⟨[],trivial,rfl,?_⟩;rw[jS ho];exact qJ5 (qJ5 (qJ5 (qJ5 (qJ5 (qJ5 (qJ6 _) rfl) rfl) rfl) (by show _=some (rf 4 [[.ptr 4 1 0 0,GB jv (A5 (A4 w.vals t.d _)),Bo jo ((w.hap t (Ai w.vals t.a) 0).effs.map (Az .i64)),.int .i64 w.time]]);rw[ME];rfl)) oZ) rfl
  refine wk 6 ?_;refine asp 93 (fun hb7=>?_) fun hb7=>?_
  .
   refine Ba ?_;have ho:t.op=7:=by simpa using hb7
   have hxa:=h.at (ht.a (.inr B2));have hxb:=h.at (ht.b B2);refine wk 7 ?_;refine dq 100 (Ce Ah rfl rfl rfl rfl rfl rfl rfl rfl hxa.1 hxa.2.2.1) ?_;refine dq 101 (Ao Ah rfl rfl rfl (Nb rfl (BI ⟨hxa.1,hxa.2.1⟩)) rfl) ?_;refine wk 3 ?_;refine dq 105 (Ce Ah rfl rfl rfl rfl rfl rfl rfl rfl hxb.1 hxb.2.2.1) ?_;refine dq 106 (Ao Ah rfl rfl rfl (Nb rfl (BI ⟨hxb.1,hxb.2.1⟩)) rfl) ?_;refine dx 107 (GD (F0 first R m w h Ab t (Ai w.vals t.a) (Ai w.vals t.b) jp jv jo hP) [jo,jv,jp,9,4,3] [(3,(.map (C5 .i64 (DJ first (((w.hap t (Ai w.vals t.a) (Ai w.vals t.b))).K))))),(4,(rf 3 [[.int .i64 first,.map 3,Bo 9 ((((w.hap t (Ai w.vals t.a) (Ai w.vals t.b))).K).map (Az .i64))]])),(9,(BU 4 ((((w.hap t (Ai w.vals t.a) (Ai w.vals t.b))).K).map (Az .i64)))),(jp,(rf 4 [[.ptr 4 1 0 0,GB jv (A5 (((w.hap t (Ai w.vals t.a) (Ai w.vals t.b))).vals)),Bo jo ((((w.hap t (Ai w.vals t.a) (Ai w.vals t.b))).effs).map (Az .i64)),.int .i64 (((w.hap t (Ai w.vals t.a) (Ai w.vals t.b))).time)]])),(jv,(Il (A5 (((w.hap t (Ai w.vals t.a) (Ai w.vals t.b))).vals)))),(jo,(BU 6 ((((w.hap t (Ai w.vals t.a) (Ai w.vals t.b))).effs).map (Az .i64))))] rfl Tryz.func137 AF rfl rfl rfl ⟨⟨_,rfl,AE⟩,⟨_,rfl,AE⟩,⟨_,rfl,AE⟩,⟨_,rfl,AE⟩,⟨_,rfl,AE⟩,⟨_,rfl,AE⟩,trivial⟩ rfl Cf ⟨⟨_,rfl,rfl,AE⟩,⟨_,rfl,rfl,AE⟩,⟨_,rfl,rfl,AE⟩,⟨_,rfl,rfl,AE⟩,⟨_,rfl,rfl,AE⟩,⟨_,rfl,rfl,AE⟩,trivial⟩ rfl) ?_
   refine wk 6 ?_;refine aq 112 (A9 (r:=.int .i64 (w.time+1)) rfl rfl rfl Tl) ?_;refine wk 4 ?_;refine⟨[],trivial,rfl,?_⟩;rw[jR ho];exact Ze
  refine wk 6 ?_;refine asp 115 (fun hb8=>?_) fun hb8=>?_
  .
   refine Ba ?_;have ho:t.op=8:=by simpa using hb8
   have hxd:=h.at (ht.d B2);refine wk 4 ?_;refine ax 119 (GD (F0 first R m w h Ab t 0 0 jp jv jo hP) [jo,jv,jp,9,4,3] [(3,(.map (C5 .i64 (DJ first (((w.hap t 0 0)).K))))),(4,(rf 3 [[.int .i64 first,.map 3,Bo 9 ((((w.hap t 0 0)).K).map (Az .i64))]])),(9,(BU 4 ((((w.hap t 0 0)).K).map (Az .i64)))),(jp,(rf 4 [[.ptr 4 1 0 0,GB jv (A5 (((w.hap t 0 0)).vals)),Bo jo ((((w.hap t 0 0)).effs).map (Az .i64)),.int .i64 (((w.hap t 0 0)).time)]])),(jv,(Il (A5 (((w.hap t 0 0)).vals)))),(jo,(BU 6 ((((w.hap t 0 0)).effs).map (Az .i64))))] rfl Tryz.func137 AF rfl rfl rfl ⟨⟨_,rfl,AE⟩,⟨_,rfl,AE⟩,⟨_,rfl,AE⟩,⟨_,rfl,AE⟩,⟨_,rfl,AE⟩,⟨_,rfl,AE⟩,trivial⟩ rfl Cf ⟨⟨_,rfl,rfl,AE⟩,⟨_,rfl,rfl,AE⟩,⟨_,rfl,rfl,AE⟩,⟨_,rfl,rfl,AE⟩,⟨_,rfl,rfl,AE⟩,⟨_,rfl,rfl,AE⟩,trivial⟩ rfl) ?_;refine wk 6 ?_;refine dx 124 (GD (Pa first R (m+1) (w.hap t 0 0) (h.eff rfl) Ab jp jv jo hP) [jo,jv,jp,9,4,3] [(3,(.map (C5 .i64 (DJ first ((J8 first (w.hap t 0 0)).2))))),(4,(rf 3 [[.int .i64 first,.map 3,Bo 9 (((J8 first (w.hap t 0 0)).2).map (Az .i64))]])),(9,(BU 4 (((J8 first (w.hap t 0 0)).2).map (Az .i64)))),(jp,(rf 4 [[.ptr 4 1 0 0,GB jv (A5 (((w.hap t 0 0)).vals)),Bo jo ((((w.hap t 0 0)).effs).map (Az .i64)),.int .i64 (((w.hap t 0 0)).time)]])),(jv,(Il (A5 (((w.hap t 0 0)).vals)))),(jo,(BU 6 ((((w.hap t 0 0)).effs).map (Az .i64))))] rfl Tryz.func138 AF rfl rfl rfl ⟨⟨_,rfl,AE⟩,⟨_,rfl,AE⟩,⟨_,rfl,AE⟩,⟨_,rfl,AE⟩,⟨_,rfl,AE⟩,⟨_,rfl,AE⟩,trivial⟩ rfl Cf ⟨⟨_,rfl,rfl,AE⟩,⟨_,rfl,rfl,AE⟩,⟨_,rfl,rfl,AE⟩,⟨_,rfl,rfl,AE⟩,⟨_,rfl,rfl,AE⟩,⟨_,rfl,rfl,AE⟩,trivial⟩ rfl) ?_
   refine dq 125 (Ce Ah rfl rfl rfl rfl rfl rfl rfl rfl hxd.1 hxd.2.2.1) ?_;refine qK8 rfl rfl (Gk Ah rfl rfl rfl rfl rfl rfl rfl To (CP _) rfl rfl rfl) ?_;refine wk 1 ?_;refine⟨[],trivial,rfl,?_⟩;rw[jQ ho];exact qJ5 (qJ5 (qJ5 (qJ5 (qJ5 (qJ5 (qJ6 _) rfl) rfl) rfl) (by show _=some (rf 4 [[.ptr 4 1 0 0,GB jv (A5 (A4 w.vals t.d _)),Bo jo ((w.hap t 0 0).effs.map (Az .i64)),.int .i64 w.time]]);rw[ME];rfl)) oZ) rfl
  refine wk 6 ?_;refine asp 126 (fun hb9=>?_) fun hb9=>?_
  .
   refine Ba ?_;have ho:t.op=9:=by simpa using hb9
   have hxa:=h.at (ht.a (.inl B2));refine wk 6 ?_;refine dq 133 (Ce Ah rfl rfl rfl rfl rfl rfl rfl rfl hxa.1 hxa.2.2.1) ?_;refine dq 134 (Ao Ah rfl rfl rfl (Nb rfl (BI ⟨hxa.1,hxa.2.1⟩)) rfl) ?_;refine dx 135 (GD (F0 first R m w h Ab t (Ai w.vals t.a) 0 jp jv jo hP) [jo,jv,jp,9,4,3] [(3,(.map (C5 .i64 (DJ first (((w.hap t (Ai w.vals t.a) 0)).K))))),(4,(rf 3 [[.int .i64 first,.map 3,Bo 9 ((((w.hap t (Ai w.vals t.a) 0)).K).map (Az .i64))]])),(9,(BU 4 ((((w.hap t (Ai w.vals t.a) 0)).K).map (Az .i64)))),(jp,(rf 4 [[.ptr 4 1 0 0,GB jv (A5 (((w.hap t (Ai w.vals t.a) 0)).vals)),Bo jo ((((w.hap t (Ai w.vals t.a) 0)).effs).map (Az .i64)),.int .i64 (((w.hap t (Ai w.vals t.a) 0)).time)]])),(jv,(Il (A5 (((w.hap t (Ai w.vals t.a) 0)).vals)))),(jo,(BU 6 ((((w.hap t (Ai w.vals t.a) 0)).effs).map (Az .i64))))] rfl Tryz.func137 AF rfl rfl rfl ⟨⟨_,rfl,AE⟩,⟨_,rfl,AE⟩,⟨_,rfl,AE⟩,⟨_,rfl,AE⟩,⟨_,rfl,AE⟩,⟨_,rfl,AE⟩,trivial⟩ rfl Cf ⟨⟨_,rfl,rfl,AE⟩,⟨_,rfl,rfl,AE⟩,⟨_,rfl,rfl,AE⟩,⟨_,rfl,rfl,AE⟩,⟨_,rfl,rfl,AE⟩,⟨_,rfl,rfl,AE⟩,trivial⟩ rfl) ?_
   refine wk 1 ?_;refine⟨[],trivial,rfl,?_⟩;rw[jP ho];exact Ze
  refine wk 6 ?_;refine asp 136 (fun hb10=>?_) fun hb10=>?_
  .
   refine Ba ?_;have ho:t.op=10:=by simpa using hb10
   refine wk 4 ?_;refine ax 140 (GD (F0 first R m w h Ab t 0 0 jp jv jo hP) [jo,jv,jp,9,4,3] [(3,(.map (C5 .i64 (DJ first (((w.hap t 0 0)).K))))),(4,(rf 3 [[.int .i64 first,.map 3,Bo 9 ((((w.hap t 0 0)).K).map (Az .i64))]])),(9,(BU 4 ((((w.hap t 0 0)).K).map (Az .i64)))),(jp,(rf 4 [[.ptr 4 1 0 0,GB jv (A5 (((w.hap t 0 0)).vals)),Bo jo ((((w.hap t 0 0)).effs).map (Az .i64)),.int .i64 (((w.hap t 0 0)).time)]])),(jv,(Il (A5 (((w.hap t 0 0)).vals)))),(jo,(BU 6 ((((w.hap t 0 0)).effs).map (Az .i64))))] rfl Tryz.func137 AF rfl rfl rfl ⟨⟨_,rfl,AE⟩,⟨_,rfl,AE⟩,⟨_,rfl,AE⟩,⟨_,rfl,AE⟩,⟨_,rfl,AE⟩,⟨_,rfl,AE⟩,trivial⟩ rfl Cf ⟨⟨_,rfl,rfl,AE⟩,⟨_,rfl,rfl,AE⟩,⟨_,rfl,rfl,AE⟩,⟨_,rfl,rfl,AE⟩,⟨_,rfl,rfl,AE⟩,⟨_,rfl,rfl,AE⟩,trivial⟩ rfl) ?_;refine wk 6 ?_;refine aq 145 (A9 (r:=.int .i64 (w.time+1)) rfl rfl rfl Tl) ?_;refine wk 4 ?_;refine⟨[],trivial,rfl,?_⟩
   rw[cp ho];exact Ze
  refine wk 2 ?_;refine⟨[],trivial,rfl,?_⟩;rw[u6 hb1 hb2 hb3 hb4 hb5 hb6 hb7 hb8 hb9 hb10];exact Ze
theorem jY(old new:Block)(R:Nat)(c:Cert)(i:Int)(next:List Int)(hR:R<=40000)(hc:∀r∈c.same,r.length=R)(hi:0<=i/\i<c.same.length)(hnx:∀k∈next,0<=k/\k<c.same.length)(hv:old.fin=2->(0<=old.v/\old.v<R)/\(0<=new.v/\new.v<R))(ho:∀t∈old.ins,Kb t R)(hn:∀t∈new.ins,Kb t R)(hlo:old.ins.length<=10000)(hln:new.ins.length<=10000)(hnl:next.length<=100000):Pu Tryz.prog 131 [.agg old.cells,.agg new.cells,.int .i64 (R:Int),.agg c.cells,.int .i64 i,AI next] (.bool (HR R old new c i next)):=by
 obtain⟨row,hrow⟩:=Ad (l:=c.same) (k:=i.toNat) Ab;have hat:c.at' i=row:=by unfold Cert.at';rw[hrow];rfl
 have hrl:=hc row (q33 hrow);have hoa0:=Qu (tU hR) ho;have hoa:VOk ((2*R:Nat):Int) R (0+2*old.ins.length) (CO R old):=hoa0;have hob:VOk ((2*R:Nat):Int) R (0+2*old.ins.length+2*new.ins.length) (D8 R old new (c.at' i)):=Qu (tT hoa _) hn;refine qK5 (n:=146) Ah Tryz.func131 rfl rfl ?_;refine FL ?_;refine ax 6 (CC 5 0) ?_;refine ax 7 (CC 5 1) ?_;refine ax 9 (CC 1 2) ?_;refine wk 5 ?_;refine aq 26 (A9 (r:=.int .i64 ((2*R:Nat):Int)) rfl rfl rfl (Adj Ab Ab Ab)) ?_;refine ax 27 (aB .i64 3 rfl rfl) ?_;refine aq 28 (lD Ah (z0:=.int .i64 0) (z1:=.map none) (x:=.int .i64 ((2*R:Nat):Int)) (y:=.map 3) rfl rfl rfl rfl rfl rfl rfl rfl rfl AF rfl rfl) ?_;refine ax 29 (CC 3 4) ?_;refine wk 6 ?_;refine ax 32 (Ng Ah (n:=R) 5 rfl rfl rfl rfl rfl rfl rfl rfl rfl rfl rfl rfl (by show 8*R<=_;omega) Bq) ?_;refine aq 33 (M5 Ah (ps:=[(0,.ptr 4 1 0 0),(1,GB 5 (List.replicate R [.int .i64 0]))]) (r:=[.ptr 4 1 0 0,GB 5 (List.replicate R [.int .i64 0]),.nil,.int .i64 0]) rfl rfl rfl rfl rfl Al (by simp only[G5,KX];rfl) rfl (by simp only[Fj,KX];rfl)) ?_
 refine ax 14 (DA Ah 6) ?_;refine qK6 rfl rfl (AY Ah rfl rfl rfl rfl rfl rfl rfl rfl rfl Al (by simp only[AV.cells,qQ1,qX7,TH];rfl) D6) ?_;refine wk 2 ?_;refine qJ0 (.weakRowF 4 (es':=[[.int .i64 ((2*R:Nat):Int),.map 3,.lst true []]]) rfl rfl pe) ?_;refine qJ0 (.weakRowF 6 (es':=[[.ptr 4 1 0 0,GB 5 (List.replicate R [.int .i64 0]),.lst true [],.int .i64 0]]) rfl rfl Vn) ?_;refine wk 3 ?_;refine ax 36 (Ng Ah (n:=R) 7 rfl rfl rfl rfl rfl rfl rfl rfl rfl rfl rfl rfl (by show 8*R<=_;omega) Bq) ?_;refine aq 37 (M5 Ah (ps:=[(0,.ptr 4 1 0 0),(1,GB 7 (List.replicate R [.int .i64 0]))]) (r:=[.ptr 4 1 0 0,GB 7 (List.replicate R [.int .i64 0]),.nil,.int .i64 0]) rfl rfl rfl rfl rfl Al (by simp only[G5,KX];rfl) rfl (by simp only[Fj,KX];rfl)) ?_;refine ax 15 (DA Ah 8) ?_;refine qK6 rfl rfl (AY Ah rfl rfl rfl rfl rfl rfl rfl rfl rfl Al (by simp only[AV.cells,qQ1,qX7,TH];rfl) D6) ?_;refine wk 3 ?_;refine qJ0 (.weakRowF 8 (es':=[[.ptr 4 1 0 0,GB 7 (List.replicate R [.int .i64 0]),.lst true [],.int .i64 0]]) rfl rfl Vn) ?_;refine wk 5 ?_;refine Ap (γ:=Nat) 12 (fun k=>⟨146,(Aa (Aa (Aa (Aa (Aa (Aa (Aa (Aa (Aa (Aa AU 2 (.int .i64 (R:Int))) 4 (.int .i64 i)) 5 (AI next)) 6 (pZ 0)) 7 (pZ 1)) 9 (pZ 2)) 14 (pZ 6)) 15 (pZ 8)) 38 (iN R)) 39 (iN k)),(Af (Af (Af (Af (Af (Af (W9 (Af (Af (Af (A0 12) 0 (rf 5 [old.cells])) 1 (rf 5 [new.cells])) 2 (rf 1 [c.cells])) ((2*R:Nat):Int) ([])) 6 (rf 4 [[.ptr 4 1 0 0,GB 5 (A5 (Dx R k (fun v:Nat=>(v:Int)))),Bo 10 (([]).map (Az .i64)),.int .i64 (0)]])) 5 (Il (A5 (Dx R k (fun v:Nat=>(v:Int)))))) 10 (BU 6 (([]).map (Az .i64)))) 8 (rf 4 [[.ptr 4 1 0 0,GB 7 (A5 (Dx R k (EV R (c.at' i)))),Bo 11 (([]).map (Az .i64)),.int .i64 (0)]])) 7 (Il (A5 (Dx R k (EV R (c.at' i)))))) 11 (BU 6 (([]).map (Az .i64))))⟩) (fun k=>k<=R) (fun k=>R-k) 0 (qJ1 B4 (by repeat(first|exact qJ4 _|exact qJ6 _|exact AO _|exact AG Dl|refine qJ5 ?_ (by first|rfl|exact wi _|exact wh _ _ _ _)|refine AN ?_ Dl|refine Bh ?_ Al))) (qZ1 _) (fun _=>Ac (Ac (Ac (Ac (Ac (Ac (Ac (Ac (Ac (Ac (B9) rfl) rfl) rfl) rfl) rfl) rfl) rfl) rfl) rfl) rfl) ?_
 intro k hk;refine wk 5 ?_;refine asp 40 (fun hb1=>?_) fun hb1=>?_
 .
  refine Ba ?_;have hkl:k<R:=by have h:=hb1;simp only[q56]at h;omega
  obtain⟨bit,hbit⟩:=Ad (l:=row) (k:=k) Ab;refine wk 18 ?_;refine aq 50 (Ce Ah rfl rfl rfl rfl rfl rfl rfl rfl (q46 _) (by rw[C2,(F1 (fun v:Nat=>(v:Int)) (qX0 hkl))];omega)) ?_;refine qK6 rfl rfl (Gk Ah rfl rfl rfl rfl rfl rfl rfl (by rw[C2,(F1 (fun v:Nat=>(v:Int)) (qX0 hkl)),q55];exact hkl) (CP _) rfl rfl rfl) ?_;refine aq 51 (Ce Ah rfl rfl rfl rfl rfl rfl rfl rfl (q46 _) (by rw[C2,(F1 (EV R (c.at' i)) (qX0 hkl))];omega)) ?_;refine qK6 rfl rfl (Gk Ah rfl rfl rfl rfl rfl rfl rfl (by rw[C2,(F1 (EV R (c.at' i)) (qX0 hkl)),q55];exact hkl) (CP _) rfl rfl rfl) ?_;refine wk 6 ?_;refine aq 55 (An Ah rfl rfl rfl rfl rfl rfl hi.1 (by rw[q54,hrow];rfl) rfl) ?_;refine wk 2 ?_;refine aq 58 (An Ah rfl rfl rfl rfl rfl rfl (q46 _) (Au hbit) rfl) ?_
  refine wk 3 ?_;refine asp 60 (fun hb2=>?_) fun hb2=>?_
  .
   refine Ba ?_;have hbf:bit=false:=by simpa using hb2
   subst hbf;refine wk 6 ?_;refine aq 66 (A9 (r:=.int .i64 ((R+k:Nat):Int)) rfl rfl rfl (wB Ab Ab Ab)) ?_;refine aq 67 (fO Ah rfl rfl rfl rfl rfl rfl rfl rfl (by rw[q83]) (q46 _) (by rw[q83,C2,(F1 (EV R (c.at' i)) (qX0 hkl))];omega)) ?_;refine qK6 rfl rfl (Gk Ah rfl rfl rfl rfl rfl rfl rfl (by rw[q83,C2,(F1 (EV R (c.at' i)) (qX0 hkl)),q55];exact hkl) (by intro cs hc;rcases q08 hc with hc|rfl;exact CP _ _ hc;rfl) rfl rfl rfl) ?_;exact xd
  refine Bg ?_;have hbf:bit=true:=by simpa using hb2
  subst hbf;exact xd
 refine Bg ?_;obtain rfl:R=k:=by have h:=hb1;simp only[q16]at h;omega
 refine wk 10 ?_;refine Ap (γ:=Nat) 12 (fun k=>⟨146,(Aa (Aa (Aa (Aa (Aa (Aa (Aa (Aa (Aa (Aa (Aa AU 2 (.int .i64 (R:Int))) 4 (.int .i64 i)) 5 (AI next)) 6 (pZ 0)) 7 (pZ 1)) 9 (pZ 2)) 14 (pZ 6)) 15 (pZ 8)) 70 (CU old.ins)) 71 (iN old.ins.length)) 72 (iN k)),(Af (Af (Af (PJ 6 5 10 (W9 (Af (Af (Af (A0 12) 0 (rf 5 [old.cells])) 1 (rf 5 [new.cells])) 2 (rf 1 [c.cells])) ((2*R:Nat):Int) (((De ((2*R:Nat):Int) (old.ins.take (k)) ⟨[],Ka R,[],0⟩)).K)) ((De ((2*R:Nat):Int) (old.ins.take (k)) ⟨[],Ka R,[],0⟩))) 8 (rf 4 [[.ptr 4 1 0 0,GB 7 (A5 (Jh R (c.at' i))),Bo 11 (([]).map (Az .i64)),.int .i64 (0)]])) 7 (Il (A5 (Jh R (c.at' i))))) 11 (BU 6 (([]).map (Az .i64))))⟩) (fun k=>k<=old.ins.length) (fun k=>old.ins.length-k) 0 (qJ1 Cq (by repeat(first|exact qJ4 _|exact qJ6 _|exact AO _|exact AG Dl|refine qJ5 ?_ (by first|rfl|exact Abo|exact Abn _|exact vV _ _ _|exact vU _ _ _ _)|refine AN ?_ Dl|refine Bh ?_ Al))) (qZ1 _) (fun _=>Ac (Ac (Ac (Ac (Ac (Ac (Ac (Ac (Ac (Ac (B9) rfl) rfl) rfl) rfl) rfl) rfl) rfl) rfl) rfl) rfl) ?_
 intro k hk;refine wk 5 ?_;refine asp 73 (fun hb3=>?_) fun hb3=>?_
 .
  refine Ba ?_;have hkl:k<old.ins.length:=by have h:=hb3;simp only[q76,q56]at h;omega
  obtain⟨t,ht⟩:=Ad hkl;refine wk 5 ?_;refine aq 74 (En Ah (Au ht)) ?_;refine wk 1 ?_;refine ax 18 (DA Ah 12) ?_;refine wk 4 ?_;refine ax 77 (GD (Tw ((2*R:Nat):Int) R _ (De ((2*R:Nat):Int) (old.ins.take (k)) ⟨[],Ka R,[],0⟩) (Tz (tU hR) ho k) Ab t (ho t (q33 ht)) 6 5 10 .a) [10,5,6,9,4,3] [(3,(.map (C5 .i64 (DJ ((2*R:Nat):Int) (((VW.step ((2*R:Nat):Int) (De ((2*R:Nat):Int) (old.ins.take (k)) ⟨[],Ka R,[],0⟩) t)).K))))),(4,(rf 3 [[.int .i64 ((2*R:Nat):Int),.map 3,Bo 9 ((((VW.step ((2*R:Nat):Int) (De ((2*R:Nat):Int) (old.ins.take (k)) ⟨[],Ka R,[],0⟩) t)).K).map (Az .i64))]])),(9,(BU 4 ((((VW.step ((2*R:Nat):Int) (De ((2*R:Nat):Int) (old.ins.take (k)) ⟨[],Ka R,[],0⟩) t)).K).map (Az .i64)))),(6,(rf 4 [[.ptr 4 1 0 0,GB 5 (A5 ((VW.step ((2*R:Nat):Int) (De ((2*R:Nat):Int) (old.ins.take (k)) ⟨[],Ka R,[],0⟩) t)).vals),Bo 10 ((((VW.step ((2*R:Nat):Int) (De ((2*R:Nat):Int) (old.ins.take (k)) ⟨[],Ka R,[],0⟩) t)).effs).map (Az .i64)),.int .i64 (((VW.step ((2*R:Nat):Int) (De ((2*R:Nat):Int) (old.ins.take (k)) ⟨[],Ka R,[],0⟩) t)).time)]])),(5,(Il (A5 ((VW.step ((2*R:Nat):Int) (De ((2*R:Nat):Int) (old.ins.take (k)) ⟨[],Ka R,[],0⟩) t)).vals))),(10,(BU 6 ((((VW.step ((2*R:Nat):Int) (De ((2*R:Nat):Int) (old.ins.take (k)) ⟨[],Ka R,[],0⟩) t)).effs).map (Az .i64))))] rfl Tryz.func133 AF rfl rfl rfl ⟨⟨_,rfl,AE⟩,⟨_,rfl,AE⟩,⟨_,rfl,AE⟩,⟨_,rfl,AE⟩,⟨_,rfl,AE⟩,⟨_,rfl,AE⟩,trivial⟩ rfl Cf ⟨⟨_,rfl,rfl,AE⟩,⟨_,rfl,rfl,AE⟩,⟨_,rfl,rfl,AE⟩,⟨_,rfl,rfl,AE⟩,⟨_,rfl,rfl,AE⟩,⟨_,rfl,rfl,AE⟩,trivial⟩ rfl) ?_
  refine wk 2 ?_;refine aq 78 (AS rfl rfl hkl (show old.ins.length<=maxLen by simp only[maxLen];omega)) ?_;exact tG
 refine Bg ?_;have hge:old.ins.length<=k:=by have h:=hb3;simp only[q76,q16]at h;omega
 refine wk 10 ?_;refine Ap (γ:=Nat) 12 (fun k=>⟨146,(Aa (Aa (Aa (Aa (Aa (Aa (Aa (Aa (Aa (Aa (Aa AU 2 (.int .i64 (R:Int))) 4 (.int .i64 i)) 5 (AI next)) 6 (pZ 0)) 7 (pZ 1)) 9 (pZ 2)) 14 (pZ 6)) 15 (pZ 8)) 80 (CU new.ins)) 81 (iN new.ins.length)) 82 (iN k)),(PJ 6 5 10 (PJ 8 7 11 (W9 (Af (Af (Af (A0 12) 0 (rf 5 [old.cells])) 1 (rf 5 [new.cells])) 2 (rf 1 [c.cells])) ((2*R:Nat):Int) (((De ((2*R:Nat):Int) (new.ins.take (k)) ⟨(CO R old).K,Jh R (c.at' i),[],0⟩)).K)) ((De ((2*R:Nat):Int) (new.ins.take (k)) ⟨(CO R old).K,Jh R (c.at' i),[],0⟩))) (CO R old))⟩) (fun k=>k<=new.ins.length) (fun k=>new.ins.length-k) 0 (qJ1 Cq z9q) (qZ1 _) (fun _=>Ac (Ac (Ac (Ac (Ac (Ac (Ac (Ac (Ac (Ac (B9) rfl) rfl) rfl) rfl) rfl) rfl) rfl) rfl) rfl) rfl) ?_;intro k hk;refine wk 5 ?_;refine asp 83 (fun hb4=>?_) fun hb4=>?_
 .
  refine Ba ?_;have hkl:k<new.ins.length:=by have h:=hb4;simp only[q76,q56]at h;omega
  obtain⟨t,ht⟩:=Ad hkl;refine wk 5 ?_;refine aq 84 (En Ah (Au ht)) ?_;refine wk 1 ?_;refine ax 20 (DA Ah 12) ?_;refine wk 4 ?_;refine ax 87 (GD (Tw ((2*R:Nat):Int) R _ (De ((2*R:Nat):Int) (new.ins.take (k)) ⟨(CO R old).K,Jh R (c.at' i),[],0⟩) (Tz (tT hoa _) hn k) Ab t (hn t (q33 ht)) 8 7 11 .b) [11,7,8,9,4,3] [(3,(.map (C5 .i64 (DJ ((2*R:Nat):Int) (((VW.step ((2*R:Nat):Int) (De ((2*R:Nat):Int) (new.ins.take (k)) ⟨(CO R old).K,Jh R (c.at' i),[],0⟩) t)).K))))),(4,(rf 3 [[.int .i64 ((2*R:Nat):Int),.map 3,Bo 9 ((((VW.step ((2*R:Nat):Int) (De ((2*R:Nat):Int) (new.ins.take (k)) ⟨(CO R old).K,Jh R (c.at' i),[],0⟩) t)).K).map (Az .i64))]])),(9,(BU 4 ((((VW.step ((2*R:Nat):Int) (De ((2*R:Nat):Int) (new.ins.take (k)) ⟨(CO R old).K,Jh R (c.at' i),[],0⟩) t)).K).map (Az .i64)))),(8,(rf 4 [[.ptr 4 1 0 0,GB 7 (A5 ((VW.step ((2*R:Nat):Int) (De ((2*R:Nat):Int) (new.ins.take (k)) ⟨(CO R old).K,Jh R (c.at' i),[],0⟩) t)).vals),Bo 11 ((((VW.step ((2*R:Nat):Int) (De ((2*R:Nat):Int) (new.ins.take (k)) ⟨(CO R old).K,Jh R (c.at' i),[],0⟩) t)).effs).map (Az .i64)),.int .i64 (((VW.step ((2*R:Nat):Int) (De ((2*R:Nat):Int) (new.ins.take (k)) ⟨(CO R old).K,Jh R (c.at' i),[],0⟩) t)).time)]])),(7,(Il (A5 ((VW.step ((2*R:Nat):Int) (De ((2*R:Nat):Int) (new.ins.take (k)) ⟨(CO R old).K,Jh R (c.at' i),[],0⟩) t)).vals))),(11,(BU 6 ((((VW.step ((2*R:Nat):Int) (De ((2*R:Nat):Int) (new.ins.take (k)) ⟨(CO R old).K,Jh R (c.at' i),[],0⟩) t)).effs).map (Az .i64))))] rfl Tryz.func133 AF rfl rfl rfl ⟨⟨_,rfl,AE⟩,⟨_,rfl,AE⟩,⟨_,rfl,AE⟩,⟨_,rfl,AE⟩,⟨_,rfl,AE⟩,⟨_,rfl,AE⟩,trivial⟩ rfl Cf ⟨⟨_,rfl,rfl,AE⟩,⟨_,rfl,rfl,AE⟩,⟨_,rfl,rfl,AE⟩,⟨_,rfl,rfl,AE⟩,⟨_,rfl,rfl,AE⟩,⟨_,rfl,rfl,AE⟩,trivial⟩ rfl) ?_
  refine wk 2 ?_;refine aq 88 (AS rfl rfl hkl (show new.ins.length<=maxLen by simp only[maxLen];omega)) ?_;exact tG
 refine Bg ?_;have hge:new.ins.length<=k:=by have h:=hb4;simp only[q76,q16]at h;omega
 rw[TA hge];refine wk 8 ?_;refine ax 93 (GD (qM (CO R old).effs (D8 R old new (c.at' i)).effs hoa.e6 hob.e6 (by have:=hoa.el;omega)) [11,10] [] rfl Tryz.func134 AF rfl rfl (by simp only[qQ1,qX7,Cb _ (show mem [11,10] 10=true from rfl),Cb _ (show mem [11,10] 11=true from rfl)];rfl) ⟨⟨_,rfl,AE⟩,⟨_,rfl,AE⟩,trivial⟩ rfl Cf ⟨⟨_,rfl,rfl,AE⟩,⟨_,rfl,rfl,AE⟩,trivial⟩ rfl) ?_;refine wk 2 ?_;refine asp 94 (fun hb5=>?_) fun hb5=>?_
 .
  refine Ba ?_;have hef:=hb5;refine wk 4 ?_;refine CE ⟨[_],⟨rfl,trivial⟩,?_,rfl⟩;refine bc ?_;exact(eH (qi hef)).symm
 refine Bg ?_;have hef:=hb5;refine wk 8 ?_;refine qK9 98 rfl (fun hb6=>?_) (fun hb6=>?_)
 .
  have hf2:old.fin=2:=by simpa using hb6
  have hxo:=hoa.at (hv hf2).1;have hxn:=hob.at (hv hf2).2;refine wk 4 ?_;refine dq 103 (Ce Ah rfl rfl rfl rfl rfl rfl rfl rfl hxo.1 hxo.2.2.1) ?_;refine dq 104 (Ao Ah rfl rfl rfl (Nb rfl (BI ⟨hxo.1,hxo.2.1⟩)) rfl) ?_;refine wk 4 ?_;refine dq 109 (Ce Ah rfl rfl rfl rfl rfl rfl rfl rfl hxn.1 hxn.2.2.1) ?_;refine dq 110 (Ao Ah rfl rfl rfl (Nb rfl (BI ⟨hxn.1,hxn.2.1⟩)) rfl) ?_;refine wk 3 ?_;refine asp 112 (fun hb7=>?_) fun hb7=>?_
  .
   refine Ba ?_;have hvf:=hb7;refine wk 4 ?_;refine CE ⟨[_],⟨rfl,trivial⟩,?_,rfl⟩;refine bc ?_;exact(eG hf2 (JV hvf)).symm
  refine Bg ?_;have hvf:=hb7;refine wk 9 ?_;refine Ap (γ:=Nat) 12 (fun j=>⟨146,(Aa (Aa (Aa (Aa (Aa (Aa (Aa (Aa (Aa (Aa (Aa AU 2 (.int .i64 (R:Int))) 4 (.int .i64 i)) 5 (AI next)) 6 (pZ 0)) 7 (pZ 1)) 9 (pZ 2)) 14 (pZ 6)) 15 (pZ 8)) 113 (AI next)) 114 (iN next.length)) 115 (iN j)),(PJ 6 5 10 (PJ 8 7 11 (W9 (Af (Af (Af (A0 12) 0 (rf 5 [old.cells])) 1 (rf 5 [new.cells])) 2 (rf 1 [c.cells])) ((2*R:Nat):Int) (((D8 R old new (c.at' i))).K)) ((D8 R old new (c.at' i)))) (CO R old))⟩) (fun j=>j<=next.length/\(next.take j).all (fun k=>EM (CO R old) (D8 R old new (c.at' i)) (c.at' k))=true) (fun j=>next.length-j) 0 (qJ1 Cq z9q) ⟨qZ1 _,rfl⟩ (fun _=>Ac (Ac (Ac (Ac (Ac (Ac (Ac (Ac (Ac (Ac (B9) rfl) rfl) rfl) rfl) rfl) rfl) rfl) rfl) rfl) rfl) ?_;intro j ⟨hj,hall⟩;refine wk 5 ?_;refine asp 116 (fun hb8=>?_) fun hb8=>?_
  .
   refine Ba ?_;have hjl:j<next.length:=by have h:=hb8;simp only[q76,q56]at h;omega
   obtain⟨nk,hnk⟩:=Ad hjl;have hkr:=hnx nk (q33 hnk);obtain⟨row2,hrow2⟩:=Ad (l:=c.same) (k:=nk.toNat) Ab;have hat2:c.at' nk=row2:=by unfold Cert.at';rw[hrow2];rfl
   have hrl2:=hc row2 (q33 hrow2);refine wk 5 ?_;refine aq 117 (An Ah rfl rfl rfl rfl rfl rfl (q46 _) (Au hnk) rfl) ?_;refine wk 8 ?_;refine aq 122 (An Ah rfl rfl rfl rfl rfl rfl hkr.1 cb rfl) ?_;refine wk 5 ?_;refine Ap (γ:=Nat) 12 (fun k=>⟨146,(Aa (Aa (Aa (Aa (Aa (Aa (Aa (Aa (Aa (Aa (Aa (Aa (Aa (Aa AU 2 (.int .i64 (R:Int))) 4 (.int .i64 i)) 5 (AI next)) 6 (pZ 0)) 7 (pZ 1)) 9 (pZ 2)) 14 (pZ 6)) 15 (pZ 8)) 113 (AI next)) 114 (iN next.length)) 115 (iN j)) 123 (Co row2)) 124 (iN row2.length)) 125 (iN k)),(PJ 6 5 10 (PJ 8 7 11 (W9 (Af (Af (Af (A0 12) 0 (rf 5 [old.cells])) 1 (rf 5 [new.cells])) 2 (rf 1 [c.cells])) ((2*R:Nat):Int) (((D8 R old new (c.at' i))).K)) ((D8 R old new (c.at' i)))) (CO R old))⟩) (fun k=>k<=row2.length/\G1 (CO R old) (D8 R old new (c.at' i)) row2 k) (fun k=>row2.length-k) 0 (qJ1 Cq B5) ⟨qZ1 _,vagree_zero⟩ (fun _=>Ac (Ac (Ac (Ac (Ac (Ac (Ac (Ac (Ac (Ac (B9) rfl) rfl) rfl) rfl) rfl) rfl) rfl) rfl) rfl) rfl) ?_
   intro k ⟨hk,hagr⟩;refine wk 5 ?_;refine asp 126 (fun hb9=>?_) fun hb9=>?_
   .
    refine Ba ?_;have hkl:k<row2.length:=by have h:=hb9;simp only[q76,q56]at h;omega
    obtain⟨must,hmu⟩:=Ad hkl;refine wk 6 ?_;refine aq 128 (An Ah rfl rfl rfl rfl rfl rfl (q46 _) (Au hmu) rfl) ?_;refine wk 8 ?_;refine qK9 131 rfl (fun hb10=>?_) (fun hb10=>?_)
    .
     have hmt:must=true:=by simpa using hb10
     have hxv:=hoa.at (z:=(k:Int)) Ab;have hyv:=hob.at (z:=(k:Int)) Ab;refine wk 3 ?_;refine dq 135 (Ce Ah rfl rfl rfl rfl rfl rfl rfl rfl hxv.1 hxv.2.2.1) ?_;refine dq 136 (Ao Ah rfl rfl rfl (Nb rfl (BI ⟨hxv.1,hxv.2.1⟩)) rfl) ?_;refine wk 3 ?_;refine dq 140 (Ce Ah rfl rfl rfl rfl rfl rfl rfl rfl hyv.1 hyv.2.2.1) ?_;refine dq 141 (Ao Ah rfl rfl rfl (Nb rfl (BI ⟨hyv.1,hyv.2.1⟩)) rfl) ?_;refine wk 3 ?_;refine asp 143 (fun hb11=>?_) fun hb11=>?_
     .
      refine Ba ?_;have hag:=hb11;exact sB
     refine Bg ?_;have hag:=hb11;exact oU
    refine wk 14 ?_;have hag:=hb10;exact oU
   refine Bg ?_;have hkge:row2.length<=k:=by have h:=hb9;simp only[q76,q16]at h;omega
   exact xa
  refine Bg ?_;have hjge:next.length<=j:=by have h:=hb8;simp only[q76,q16]at h;omega
  exact sW
 refine wk 16 ?_;have hvf:=hb6;refine wk 9 ?_;refine Ap (γ:=Nat) 12 (fun j=>⟨146,(Aa (Aa (Aa (Aa (Aa (Aa (Aa (Aa (Aa (Aa (Aa AU 2 (.int .i64 (R:Int))) 4 (.int .i64 i)) 5 (AI next)) 6 (pZ 0)) 7 (pZ 1)) 9 (pZ 2)) 14 (pZ 6)) 15 (pZ 8)) 113 (AI next)) 114 (iN next.length)) 115 (iN j)),(PJ 6 5 10 (PJ 8 7 11 (W9 (Af (Af (Af (A0 12) 0 (rf 5 [old.cells])) 1 (rf 5 [new.cells])) 2 (rf 1 [c.cells])) ((2*R:Nat):Int) (((D8 R old new (c.at' i))).K)) ((D8 R old new (c.at' i)))) (CO R old))⟩) (fun j=>j<=next.length/\(next.take j).all (fun k=>EM (CO R old) (D8 R old new (c.at' i)) (c.at' k))=true) (fun j=>next.length-j) 0 (qJ1 Cq z9q) ⟨qZ1 _,rfl⟩ (fun _=>Ac (Ac (Ac (Ac (Ac (Ac (Ac (Ac (Ac (Ac (B9) rfl) rfl) rfl) rfl) rfl) rfl) rfl) rfl) rfl) rfl) ?_;intro j ⟨hj,hall⟩;refine wk 5 ?_;refine asp 116 (fun hb12=>?_) fun hb12=>?_
 .
  refine Ba ?_;have hjl:j<next.length:=by have h:=hb12;simp only[q76,q56]at h;omega
  obtain⟨nk,hnk⟩:=Ad hjl;have hkr:=hnx nk (q33 hnk);obtain⟨row2,hrow2⟩:=Ad (l:=c.same) (k:=nk.toNat) Ab;have hat2:c.at' nk=row2:=by unfold Cert.at';rw[hrow2];rfl
  have hrl2:=hc row2 (q33 hrow2);refine wk 5 ?_;refine aq 117 (An Ah rfl rfl rfl rfl rfl rfl (q46 _) (Au hnk) rfl) ?_;refine wk 8 ?_;refine aq 122 (An Ah rfl rfl rfl rfl rfl rfl hkr.1 cb rfl) ?_;refine wk 5 ?_;refine Ap (γ:=Nat) 12 (fun k=>⟨146,(Aa (Aa (Aa (Aa (Aa (Aa (Aa (Aa (Aa (Aa (Aa (Aa (Aa (Aa AU 2 (.int .i64 (R:Int))) 4 (.int .i64 i)) 5 (AI next)) 6 (pZ 0)) 7 (pZ 1)) 9 (pZ 2)) 14 (pZ 6)) 15 (pZ 8)) 113 (AI next)) 114 (iN next.length)) 115 (iN j)) 123 (Co row2)) 124 (iN row2.length)) 125 (iN k)),(PJ 6 5 10 (PJ 8 7 11 (W9 (Af (Af (Af (A0 12) 0 (rf 5 [old.cells])) 1 (rf 5 [new.cells])) 2 (rf 1 [c.cells])) ((2*R:Nat):Int) (((D8 R old new (c.at' i))).K)) ((D8 R old new (c.at' i)))) (CO R old))⟩) (fun k=>k<=row2.length/\G1 (CO R old) (D8 R old new (c.at' i)) row2 k) (fun k=>row2.length-k) 0 (qJ1 Cq B5) ⟨qZ1 _,vagree_zero⟩ (fun _=>Ac (Ac (Ac (Ac (Ac (Ac (Ac (Ac (Ac (Ac (B9) rfl) rfl) rfl) rfl) rfl) rfl) rfl) rfl) rfl) rfl) ?_
  intro k ⟨hk,hagr⟩;refine wk 5 ?_;refine asp 126 (fun hb13=>?_) fun hb13=>?_
  .
   refine Ba ?_;have hkl:k<row2.length:=by have h:=hb13;simp only[q76,q56]at h;omega
   obtain⟨must,hmu⟩:=Ad hkl;refine wk 6 ?_;refine aq 128 (An Ah rfl rfl rfl rfl rfl rfl (q46 _) (Au hmu) rfl) ?_;refine wk 8 ?_;refine qK9 131 rfl (fun hb14=>?_) (fun hb14=>?_)
   .
    have hmt:must=true:=by simpa using hb14
    have hxv:=hoa.at (z:=(k:Int)) Ab;have hyv:=hob.at (z:=(k:Int)) Ab;refine wk 3 ?_;refine dq 135 (Ce Ah rfl rfl rfl rfl rfl rfl rfl rfl hxv.1 hxv.2.2.1) ?_;refine dq 136 (Ao Ah rfl rfl rfl (Nb rfl (BI ⟨hxv.1,hxv.2.1⟩)) rfl) ?_;refine wk 3 ?_;refine dq 140 (Ce Ah rfl rfl rfl rfl rfl rfl rfl rfl hyv.1 hyv.2.2.1) ?_;refine dq 141 (Ao Ah rfl rfl rfl (Nb rfl (BI ⟨hyv.1,hyv.2.1⟩)) rfl) ?_;refine wk 3 ?_;refine asp 143 (fun hb15=>?_) fun hb15=>?_
    .
     refine Ba ?_;have hag:=hb15;exact sB
    refine Bg ?_;have hag:=hb15;exact oU
   refine wk 14 ?_;have hag:=hb14;exact oU
  refine Bg ?_;have hkge:row2.length<=k:=by have h:=hb13;simp only[q76,q16]at h;omega
  exact xa
 refine Bg ?_;have hjge:next.length<=j:=by have h:=hb12;simp only[q76,q16]at h;omega
 exact sW
end Go.Proofs.YtbbfelelocccmaaGreat.Sv
