/-
  WHAT MATTERS, BY A LIST OF BLOCKS THAT WAIT: own work.
-/
import Derived.Test.YtbbfelelocccmaaGreatPOptimizeSplits5
import Derived.Test.YtbbfelelocccmaaGreatPOptimizeSplits3
import Derived.Test.YtbbfelelocccmaaGreatPOptimizeSplits4
import Derived.Test.YtbbfelelocccmaaGreatPOptimizeSplits2
set_option linter.unusedVariables false
set_option linter.unusedSimpArgs false
set_option maxRecDepth 100000
set_option maxHeartbeats 2000000
namespace Go.Proofs.YtbbfelelocccmaaGreat.Sv
open Go
def AS(I:BB)(b:Nat)(p:Nat->Bool):BB:=fun c=>if c=b then p else I c
theorem BE(I:BB)(b:Nat)(p:Nat->Bool):AS I b p b=p:=by unfold AS;rw[if_pos rfl]
theorem Dj{I:BB}{b c:Nat}(p:Nat->Bool)(h:c≠b):AS I b p c=I c:=by unfold AS;rw[if_neg h]
theorem setRow_self(I:BB)(b:Nat):AS I b (I b)=I:=funext fun c=>by
 unfold AS;split
 . subst_vars;rfl
 . rfl
def Xs(p q:Nat->Bool)(k:Nat):Nat->Bool:=fun v=>p v||(decide (v/64<k)&&q v)
theorem ZX(p q:Nat->Bool)(v:Nat):p v=Xs p q 0 v:=by simp[Xs]
theorem Tz{k v:Nat}(hv:v<64):(64*k+v)/64=k:=by omega
theorem ZZ(p q:Nat->Bool)(k:Nat):Bt (Xs p q (k+1)) k=[AV.int .u64 ((wd (fun v=>p (64*k+v)||q (64*k+v)):Nat):Int)]:=by
 grind[Bt,wd,F1,Xs,Tz]
theorem VY(p q:Nat->Bool)(k:Nat):Bt (Xs p q k) k=Bt p k:=DO fun v hv=>by
 grind[Xs,Tz,Bt]
theorem ZY{R:Nat}(p q:Nat->Bool)(k:Nat):(Bk R (Xs p q k)).set k [AV.int .u64 ((wd (fun v=>p (64*k+v)||q (64*k+v)):Nat):Int)]=Bk R (Xs p q (k+1)):=by
 grind[ZZ,JO,Xs,Bk,wd]
theorem MV{R:Nat}{p q:Nat->Bool}(h: ∀v,v/64<nw R->p v=q v):Bk R p=Bk R q:=by
 refine List.ext_getElem? fun i=>?_
 grind[nw,Cc,DO,Tz,Bd,Bk]
theorem dH{R k:Nat}(p q:Nat->Bool)(h:nw R<=k):Bk R (Xs p q k)=Bk R (fun v=>p v||q v):=MV fun v hv=>by
 grind[Xs,nw,Bk]
def KT(I:BB)(p:Nat->Bool)(x:Block)(j:Nat):Nat->Bool:=fun v=>p v||(x.nexts.take j).any fun d=>I d.toNat v
theorem outP_zero(I:BB)(p:Nat->Bool)(x:Block)(v:Nat):p v=KT I p x 0 v:=by simp[KT]
theorem Xr{I:BB}{p:Nat->Bool}{x:Block}{j:Nat}{d:Int}(h:x.nexts[j]?=some d)(v:Nat):(KT I p x j v||I d.toNat v)=KT I p x (j+1) v:=by
 unfold KT;have e:x.nexts.take (j+1)=x.nexts.take j++[d]:=by rw[List.take_add_one,h];rfl
 grind
def DD(I:BB)(p:Nat->Bool)(x:Block):Nat->Bool:=fun v=>p v||x.nexts.any fun d=>I d.toNat v
theorem outP_end{I:BB}{p:Nat->Bool}{x:Block}{j:Nat}(h:x.nexts.length<=j):KT I p x j=DD I p x:=by
 unfold KT DD;rw[List.take_of_length_le h]
def inN(x:Block)(o:Nat->Bool):Nat->Bool:=fun v=>I8 x v||(o v&& !CD v x.ins)
theorem Kd(x:Block)(o:Nat->Bool)(v:Nat):inN x o v=need v x.ins (C2 x v||o v):=(UE x v (o v)).symm
def Hi(p q:Nat->Bool)(k:Nat):Nat->Bool:=fun v=>if v/64<k then p v else q v
theorem XC(p q:Nat->Bool)(v:Nat):q v=Hi p q 0 v:=by simp[Hi]
theorem XE(p q:Nat->Bool)(k:Nat):Bt (Hi p q (k+1)) k=Bt p k:=DO fun v hv=>by
 grind[Hi,Tz,Bt]
theorem SP(p q:Nat->Bool)(k:Nat):Bt (Hi p q k) k=Bt q k:=DO fun v hv=>by
 grind[Hi,Tz,Bt]
theorem V1(p q:Nat->Bool){k v:Nat}(hv:v/64≠k):Hi p q (k+1) v=Hi p q k v:=by
 grind[Hi]
theorem aD{R:Nat}(p q:Nat->Bool)(k:Nat):(Bk R (Hi p q k)).set k (Bt p k)=Bk R (Hi p q (k+1)):=by
 grind[XE,JO,V1,Bk,Hi,Bt]
def Ow(p:Nat->Bool)(k:Nat):Nat:=wd (fun v=>p (64*k+v))
theorem RM{p q:Nat->Bool}{k:Nat}(h:Ow p k=Ow q k)(v:Nat)(hv:v/64=k):p v=q v:=by
 have:=bq (n:=64) h (v%64) (Nat.mod_lt _ (by decide))
 grind
theorem XD{p q:Nat->Bool}{k:Nat}(h:Ow p k=Ow q k)(v:Nat):Hi p q k v=Hi p q (k+1) v:=by
 grind[Hi,RM,V1,Ow]
theorem aE{R k:Nat}(p q:Nat->Bool)(h:nw R<=k):Bk R (Hi p q k)=Bk R p:=MV fun v hv=>by
 grind[Hi,nw,Bk]
def chg(p q:Nat->Bool)(k:Nat):Bool:=(List.range k).any fun i=>Ow p i !=Ow q i
theorem eX{p q:Nat->Bool}{k:Nat}(h:(Ow p k !=Ow q k)=true):true=chg p q (k+1):=by
 grind[chg,Ow]
theorem iU{p q:Nat->Bool}{k:Nat}(h:Ow p k=Ow q k):chg p q k=chg p q (k+1):=by
 grind[chg,Ow]
theorem bP{p q:Nat->Bool}{R:Nat}(h:chg p q (nw R)=false)(v:Nat)(hv:v<R):p v=q v:=by
 unfold chg at h;rw[List.any_eq_false]at h;have:=h (v/64) (List.mem_range.2 (SH hv))
 grind[RM,chg,nw]
theorem eY{p q:Nat->Bool}{R:Nat}(h:chg p q (nw R)=true): ∃v,v<64*nw R/\p v≠q v:=by
 unfold chg at h;obtain⟨i,hi,h2⟩:=List.any_eq_true.1 h;have hi:=List.mem_range.1 hi
 by_cases hex: ∃v,v<64/\p (64*i+v)≠q (64*i+v)
 . obtain⟨v,hv,hne⟩:=hex;exact⟨64*i+v,by omega,hne⟩
 . exfalso;have:Ow p i=Ow q i:=F1 fun v hv=>Classical.byContradiction fun hne=>hex ⟨v,hv,hne⟩
   simp[this]at h2
theorem falses_lt{n R:Nat}{I I':BB}(hm: ∀b v,I b v=true->I' b v=true){b v:Nat}(hb:b<n)(hv:v<R)(h:I b v=false)(h':I' b v=true):D7 n R I'<D7 n R I:=by
 have hle: ∀c v,(if I' c v then 0 else 1)<=(if I c v then 0 else 1:Nat):=fun c v=>by
  grind
 refine Qr (fun c _=>?_) hb ?_
 . exact Nat.le_of_not_lt fun hlt=>by
    have: ∀m,((List.range m).map fun v=>if I' c v then 0 else 1).sum<=((List.range m).map fun v=>if I c v then 0 else 1).sum:=fun m=>by
     induction m with
     | zero=>simp
     | succ m ih=>
      rw[List.range_succ,List.map_append,List.map_append,List.sum_append,List.sum_append];have:=hle c m;simp only[List.map_cons,List.map_nil,List.sum_cons,List.sum_nil,Nat.add_zero];omega
    have:=this R;omega
 . refine Qr (fun u _=>hle b u) hv ?_;rw[h,h'];simp
structure WaitI(n:Nat)(waits:Nat->Bool)(ws:List Nat):Prop where
  nod:ws.Nodup
  mem: ∀b,b∈ws↔b<n/\waits b=true
  cnt:((List.range n).map fun b=>if waits b then 1 else 0).sum=ws.length
def Cj(w:Nat->Bool)(b:Nat)(z:Bool):Nat->Bool:=fun c=>if c=b then z else w c
theorem CR(w:Nat->Bool)(b:Nat)(z:Bool):Cj w b z b=z:=by unfold Cj;rw[if_pos rfl]
theorem CC{w:Nat->Bool}{b c:Nat}(z:Bool)(h:c≠b):Cj w b z c=w c:=by unfold Cj;rw[if_neg h]
theorem Rl(w:Nat->Bool)(b:Nat): ∀n,((List.range n).map fun c=>if Cj w b true c then 1 else 0).sum=((List.range n).map fun c=>if Cj w b false c then 1 else 0).sum+(if b<n then 1 else 0)
 | 0=>by simp
 | n+1=>by
  rw[List.range_succ,List.map_append,List.map_append,List.sum_append,List.sum_append,Rl w b n]
  grind[CR,CC,Cj]
theorem GH{w:Nat->Bool}{b:Nat}{z:Bool}(h:w b=z):Cj w b z=w:=funext fun c=>by
 grind[CR,CC,Cj]
theorem WaitI.push{n:Nat}{w:Nat->Bool}{ws:List Nat}(h:WaitI n w ws){b:Nat}(hb:b<n)(hw:w b=false):WaitI n (Cj w b true) (ws++[b]):=by
 refine⟨?_,fun c=>?_,?_⟩
 . rw[List.nodup_append];refine⟨h.nod,by simp,fun x hx y hy=>?_⟩;rw[List.mem_singleton]at hy;subst hy;intro e;subst e;have:=((h.mem x).1 hx).2;rw[hw]at this;cases this
 . rw[List.mem_append,List.mem_singleton,h.mem]
   by_cases hc:c=b
   . subst hc;rw[CR];exact⟨fun _=>⟨hb,rfl⟩,fun _=>.inr rfl⟩
   . rw[CC _ hc];exact⟨fun h=>h.elim id fun e=>absurd e hc,.inl⟩
 . rw[Rl,GH hw,h.cnt,if_pos hb];simp
theorem WaitI.pop{n:Nat}{w:Nat->Bool}{ws:List Nat}{b:Nat}(h:WaitI n w (ws++[b])):WaitI n (Cj w b false) ws/\b<n/\w b=true:=by
 have hb:=(h.mem b).1 (List.mem_append.2 (.inr (List.mem_singleton.2 rfl)));have hn:=List.nodup_append.1 h.nod;have hnb:b∉ws:=fun hx=>hn.2.2 b hx b (List.mem_singleton.2 rfl) rfl
 refine⟨⟨hn.1,fun c=>?_,?_⟩,hb.1,hb.2⟩
 . by_cases hc:c=b
   . subst hc;rw[CR];exact⟨fun h=>absurd h hnb,fun h=>by cases h.2⟩
   . rw[CC _ hc,<-h.mem,List.mem_append,List.mem_singleton];exact⟨.inl,fun h=>h.elim id fun e=>absurd e hc⟩
 . have e:=Rl w b n;rw[GH hb.2,if_pos hb.1,h.cnt]at e;simp at e;omega
theorem WaitI.le{n:Nat}{w:Nat->Bool}{ws:List Nat}(h:WaitI n w ws):ws.length<=n:=by
 rw[<-h.cnt];have: ∀m,((List.range m).map fun b=>if w b then 1 else 0).sum<=m:=fun m=>by
  induction m with
  | zero=>simp
  | succ m ih=>
   rw[List.range_succ,List.map_append,List.sum_append];simp only[List.map_cons,List.map_nil,List.sum_cons,List.sum_nil,Nat.add_zero];split<;>omega
 exact this n
def I3(w:Nat->Bool)(b:Nat):Nat->Bool:=Cj w b true
def GF(w:Nat->Bool)(ws:List Nat)(b:Nat):List Nat:=bif w b then ws else ws++[b]
theorem WaitI.wait{n:Nat}{w:Nat->Bool}{ws:List Nat}(h:WaitI n w ws){b:Nat}(hb:b<n):WaitI n (I3 w b) (GF w ws b):=by
 unfold I3 GF
 cases hw:w b with
 | true=>rw[GH hw];exact h
 | false=>exact h.push hb hw
structure LInv(f:BFunc)(R:Nat)(I O:BB)(w:Nat->Bool)(rest:List Nat):Prop where
  si:F9 f I
  so:Fl f O
  mono: ∀b x,f.blocks[b]?=some x->∀v,I b v=true->need v x.ins (C2 x v||O b v)=true
  cl: ∀b,b<f.blocks.length->w b=false->b∈rest\/Ga f R I O b
def OK(f:BFunc)(c a:Nat):List Nat:=((f.blocks[a]?).map fun x=>(x.nexts.filter (· ==(c:Int))).map fun _=>a).getD []
def aheadP(f:BFunc)(k j c:Nat):List Nat:=(List.range k).flatMap (OK f c)++((f.blocks[k]?).map fun x=>((x.nexts.take j).filter (· ==(c:Int))).map fun _=>k).getD []
def Au(f:BFunc)(c:Nat):List Nat:=(List.range f.blocks.length).flatMap (OK f c)
theorem C4(f:BFunc)(k c:Nat):aheadP f k 0 c=(List.range k).flatMap (OK f c):=by
 unfold aheadP
 cases f.blocks[k]?<;>simp
theorem Gp{f:BFunc}{k j:Nat}{x:Block}{d:Int}(hx:f.blocks[k]?=some x)(hd:x.nexts[j]?=some d)(h0:0<=d)(c:Nat):aheadP f k (j+1) c=if c=d.toNat then aheadP f k j c++[k]else aheadP f k j c:=by
 unfold aheadP;rw[hx];have e:x.nexts.take (j+1)=x.nexts.take j++[d]:=by rw[List.take_add_one,hd];rfl
 grind
theorem Gq{f:BFunc}{k j:Nat}{x:Block}(hx:f.blocks[k]?=some x)(h:x.nexts.length<=j)(c:Nat):aheadP f k j c=aheadP f (k+1) 0 c:=by
 rw[C4,List.range_succ,List.flatMap_append];unfold aheadP;congr 1;rw[hx];simp only[Option.map_some,Option.getD_some];rw[List.take_of_length_le h];simp[OK,hx]
theorem Oi{f:BFunc}{a c:Nat}{x:Block}(hx:f.blocks[a]?=some x)(h:x.nexts.contains (c:Int)=true):a∈Au f c:=by
 unfold Au;rw[List.mem_flatMap];refine⟨a,List.mem_range.2 (List.getElem?_eq_some_iff.1 hx).1,?_⟩;unfold OK;rw[hx];simp only[Option.map_some,Option.getD_some,List.mem_map,List.mem_filter];exact⟨(c:Int),⟨List.contains_iff_mem.1 h,by simp⟩,trivial⟩
theorem IY{f:BFunc}{a c:Nat}(h:a∈Au f c):a<f.blocks.length:=by
 grind[Au,OK]
theorem F7(f:BFunc)(k j c:Nat):(aheadP f k j c).length<=2*k+2:=by
 have h1: ∀k,((List.range k).flatMap (OK f c)).length<=2*k:=fun k=>by
  induction k with
  | zero=>simp
  | succ k ih=>
   rw[List.range_succ,List.flatMap_append,List.length_append];have:(OK f c k).length<=2:=by
    unfold OK
    cases e:f.blocks[k]? with
    | none=>simp
    | some x=>
     simp only[Option.map_some,Option.getD_some,List.length_map];exact Nat.le_trans (List.length_filter_le _ _) (Fy x)
   simp only[List.flatMap_cons,List.flatMap_nil,List.append_nil];omega
 have h2:=h1 k;unfold aheadP;rw[List.length_append];have:(((f.blocks[k]?).map fun x=>((x.nexts.take j).filter (· ==(c:Int))).map fun _=>k).getD []).length<=2:=by
  cases e:f.blocks[k]? with
  | none=>simp
  | some x=>
   simp only[Option.map_some,Option.getD_some,List.length_map];refine Nat.le_trans (List.length_filter_le _ _) ?_;rw[List.length_take];have:=Fy x;omega
 omega
theorem LInv.first{f:BFunc}{R:Nat}{w:Nat->Bool}(hw: ∀b,b<f.blocks.length->w b=true):LInv f R (fun _ _=>false) (fun _ _=>false) w []:=
 ⟨fun _ _ h=>(by cases h),fun _ _ h=>(by cases h),fun _ _ _ _ h=>(by cases h),fun b hb h=>(by rw[hw b hb]at h;cases h)⟩
theorem LInv.wait{f:BFunc}{R:Nat}{I O:BB}{w:Nat->Bool}{a:Nat}{rest:List Nat}(h:LInv f R I O w (a::rest)):LInv f R I O (I3 w a) rest:=
 ⟨h.si,h.so,h.mono,fun b hb hw=>by
  unfold I3 at hw
  by_cases hba:b=a
  . subst hba;rw[CR]at hw;cases hw
  . rw[CC _ hba]at hw;rcases h.cl b hb hw with h1 | h1
    . exact(List.mem_cons.1 h1).elim (fun e=>absurd e hba) .inl
    . exact .inr h1⟩
theorem Uy{f:BFunc}{I O:BB}(hI:F9 f I)(hO:Fl f O){b:Nat}{x:Block}(hx:f.blocks[b]?=some x):Fl f (AS O b (DD I (O b) x)):=by
 have hx1: ∀v,DD I (O b) x v=true->outB f x v=true:=fun v hv=>by
  unfold DD at hv;rcases Bool.or_eq_true_iff.1 hv with h | h
  . obtain⟨y,hy,e⟩:=hO b v h;rw[hx]at hy;cases hy;exact e
  . obtain⟨d,hd,hv2⟩:=List.any_eq_true.1 h;have hp:=MF (v:=v) hI hO hx hd b v (by unfold putBB;rw[if_pos ⟨rfl,rfl⟩,hv2,Bool.or_true]);obtain⟨y,hy,e⟩:=hp;rw[hx]at hy;cases hy;exact e
 intro c v hv
 by_cases hc:c=b
 . subst hc;rw[BE]at hv;exact⟨x,hx,hx1 v hv⟩
 . rw[Dj _ hc]at hv;exact hO c v hv
theorem LInv.grow{f:BFunc}(hs:f.sane){R:Nat}{I O:BB}{w:Nat->Bool}{b:Nat}{x:Block}(hx:f.blocks[b]?=some x)(h:LInv f R I O w [])
 (hR:R=f.regs.toNat):let o:=DD I (O b) x
 LInv f R (AS I b (inN x o)) (AS O b o) (Cj w b false) (bif chg (inN x o) (I b) (nw R)then Au f b else [])/\
 (chg (inN x o) (I b) (nw R)=true->D7 f.blocks.length (64*nw R) (AS I b (inN x o))<D7 f.blocks.length (64*nw R) I)/\D7 f.blocks.length (64*nw R) (AS I b (inN x o))<=D7 f.blocks.length (64*nw R) I:=by
 intro o;have hbl:b<f.blocks.length:=(List.getElem?_eq_some_iff.1 hx).1;have hso:Fl f (AS O b o):=Uy h.si h.so hx;have hle: ∀v,I b v=true->inN x o v=true:=fun v hv=>by
  rw[Kd];refine Bp ?_ (h.mono b x hx v hv);intro e;rcases Bool.or_eq_true_iff.1 e with e | e
  . rw[e];rfl
  . have:o v=true:=by show(O b v||_)=true;rw[e];rfl
    rw[this,Bool.or_true]
 have hmon: ∀c v,I c v=true->AS I b (inN x o) c v=true:=fun c v hv=>by
  by_cases hc:c=b
  . subst hc;rw[BE];exact hle v hv
  . rw[Dj _ hc];exact hv
 refine⟨⟨?_,hso,?_,?_⟩,?_,?_⟩
 . intro c v hv
   by_cases hc:c=b
   . subst hc;rw[BE,Kd]at hv;exact soundI_need (I:=I) hso hx (by rw[BE];exact hv)
   . rw[Dj _ hc]at hv;exact h.si c v hv
 . intro c y hy v hv
   by_cases hc:c=b
   . subst hc;rw[hx]at hy;cases hy;rw[BE]at hv |-;rw[<-Kd];exact hv
   . rw[Dj _ hc]at hv |-;exact h.mono c y hy v hv
 . intro c hc hw;obtain⟨y,hy⟩:=Ae hc;have hnx: ∀d∈y.nexts,0<=d:=fun d hd=>(hs.next y (List.mem_of_getElem? hy) d hd).1
   -- either nothing new is ahead of b, or c doesn't lead to b, or it is to wait
   by_cases hin:(chg (inN x o) (I b) (nw R)=true/\y.nexts.contains (b:Int)=true)
   . left;rw[hin.1];show c∈Au f b;exact Oi hy hin.2
   . right;have hsame: ∀d∈y.nexts,∀v,v<R->AS I b (inN x o) d.toNat v=I d.toNat v:=fun d hd v hv=>by
      by_cases hdb:d.toNat=b
      . have hcon:y.nexts.contains (b:Int)=true:=by
         rw[List.contains_iff_mem];have:d=(b:Int):=by have:=hnx d hd;omega
         rw[<-this];exact hd
        have hch:chg (inN x o) (I b) (nw R)=false:=by
         cases e:chg (inN x o) (I b) (nw R)with
         | false=>rfl
         | true=>exact absurd ⟨e,hcon⟩ hin
        rw[hdb,BE];exact bP hch v hv
      . rw[Dj _ hdb]
     intro y' hy' v hv;rw[hy]at hy';cases hy'
     by_cases hcb:c=b
     . subst hcb;rw[hx]at hy;cases hy;rw[BE,BE];refine⟨fun d hd hid=>?_,fun hn=>?_⟩
       . rw[hsame d hd v hv]at hid;show(O c v||x.nexts.any fun d=>I d.toNat v)=true;rw[List.any_eq_true.2 ⟨d,hd,hid⟩,Bool.or_true]
       . rw[Kd];exact hn
     . have hwc:w c=false:=by rw[CC _ hcb]at hw;exact hw
       have hcl:=(h.cl c hc hwc).elim (fun e=>by cases e) id y hy v hv;rw[Dj _ hcb,Dj _ hcb];exact⟨fun d hd hid=>hcl.1 d hd (by rw[hsame d hd v hv]at hid;exact hid),hcl.2⟩
 . intro hch;obtain⟨v,hv,hne⟩:=eY hch;have h1:I b v=false:=by
    grind
   refine falses_lt hmon hbl hv h1 ?_;rw[BE]
   cases e:inN x o v with
   | true=>rfl
   | false=>rw[e,h1]at hne;exact absurd rfl hne
 . by_cases hex: ∃v,v<64*nw R/\inN x o v≠I b v
   . obtain⟨v,hv,hne⟩:=hex;have h1:I b v=false:=by
      cases e:I b v with
      | false=>rfl
      | true=>exact absurd (by rw[hle v e,e]) hne
     refine Nat.le_of_lt (falses_lt hmon hbl hv h1 ?_);rw[BE]
     cases e:inN x o v with
     | true=>rfl
     | false=>rw[e,h1]at hne;exact absurd rfl hne
   . refine Nat.le_of_eq ?_;unfold D7;congr 1;refine List.map_congr_left fun c _=>?_
     congr 1;refine List.map_congr_left fun v hv=>?_
     by_cases hc:c=b
     . subst hc;rw[BE];rw[show inN x o v=I c v from Classical.byContradiction fun hne=>hex ⟨v,List.mem_range.1 hv,hne⟩]
     . rw[Dj _ hc]
theorem LInv.closed{f:BFunc}{R:Nat}{I O:BB}{w:Nat->Bool}(h:LInv f R I O w [])(hw:WaitI f.blocks.length w [])(b:Nat)(hb:b<f.blocks.length):Ga f R I O b:=
 (h.cl b hb (by
  cases e:w b with
  | false=>rfl
  | true=>exact absurd ((hw.mem b).2 ⟨hb,e⟩) (by simp))).elim (fun e=>by cases e) id
theorem LInv.inRow{f:BFunc}(hs:f.sane){R:Nat}(hR:R=f.regs.toNat){I O:BB}{w:Nat->Bool}(h:LInv f R I O w [])(hw:WaitI f.blocks.length w []){b:Nat}(hb:b<f.blocks.length):Gz R (I b)=V9 f b:=by
 subst hR;exact Jt fun v hv=>P7 hs h.si h.so (fun c hc=>h.closed hw c hc) hb hv
theorem LInv.outRow{f:BFunc}(hs:f.sane){R:Nat}(hR:R=f.regs.toNat){I O:BB}{w:Nat->Bool}(h:LInv f R I O w [])(hw:WaitI f.blocks.length w []){b:Nat}{x:Block}(hx:f.blocks[b]?=some x):Gz R (O b)=QR f x:=by
 subst hR;exact Jt fun v hv=>U4 hs h.si h.so (fun c hc=>h.closed hw c hc) hx hv
def By(a:Nat):List AV:=[AV.int .i64 (a:Int)]
def TU(R:Nat)(x:Block):List AV:=[AV.lst false (Bk R (I8 x))]
def TS(R:Nat)(x:Block):List AV:=[AV.lst false (Bk R (fun v=>CD v x.ins))]
def Oj(A:Nat->List Nat)(c:Nat):AV:=D1 (3*c+2+16) ((A c).map By)
abbrev cB(f:BFunc)(m len:Nat):List AV:=[AU f.nexts,.ref 7 f.blocks.length 0 f.blocks.length,.ref 8 f.blocks.length 0 f.blocks.length,.ref 9 f.blocks.length 0 f.blocks.length,.ref 3 f.blocks.length 0 f.blocks.length,.ref 4 f.blocks.length 0 f.blocks.length,.ref 6 m 0 len,.ref 5 f.blocks.length 0 f.blocks.length]
abbrev bC(n:Nat)(w:Nat->Bool):List (List AV):=Aw (fun b=>.bool (w b)) n
def rI(n R:Nat)(I:BB):Nat->AObj:=Cy n (fun b=>Ef R (I b))
def rA(n:Nat)(A:Nat->List Nat):Nat->AObj:=Cy n (fun c=>Hw 1 ((A c).map By))
abbrev fe(f:BFunc)(R:Nat)(es:List (List AV))(len:Nat)(w:Nat->Bool):List AObj:=
  [.row false 8 [cB f es.length len],.row false 1 (Aw (rG 0 (nw R)) f.blocks.length),.row false 1 (Aw (rG 1 (nw R)) f.blocks.length),.row true 1 (bC f.blocks.length w),.row true 1 es,
   .row false 1 (Aw (Oj (Au f)) f.blocks.length),.row true 1 (f.blocks.map (TU R)),.row true 1 (f.blocks.map (TS R))]
abbrev HS(f:BFunc)(R:Nat)(es:List (List AV))(len:Nat)(w:Nat->Bool)(F:Nat->AObj):Ab:=GV (nb (.free:: .free::fe f R es len w)) F
theorem CA(k0:Nat)(A:Nat->List Nat)(c:Nat):(Oj A c).avoid (kf k0)=true:=B8 _ (SZ _ _)
theorem Cp{k:Nat->Bool}{n:Nat}{A:Nat->List Nat}(b:Nat):(rA n A b).avoid k=true:=Ej (fun _=>CS _ _) b
def CQ(w:Nat->Bool)(es:List (List AV))(len b:Nat):List (List AV):=bif w b then es else CN es len (By b)
def Ds(w:Nat->Bool)(len b:Nat):Nat:=bif w b then len else len+1
theorem iZ{n b:Nat}{w:Nat->Bool}(z:Bool):(bC n w).set b [AV.bool z]=bC n (Cj w b z):=by
 show(Aw _ n).set b _=_;rw[GY];refine CM fun c _=>?_
 unfold Cj;split<;>rfl
theorem Hr{n b:Nat}{w:Nat->Bool}(z:Bool):(bC n w).set (0+((b:Nat):Int).toNat) [AV.bool z]=bC n (Cj w b z):=by
 rw[Nat.zero_add,Int.toNat_natCast];exact iZ z
structure StackI(n:Nat)(es:List (List AV))(ws:List Nat):Prop where
  top:es.take ws.length=ws.map By
  le:ws.length<=es.length
  max:es.length<=n
theorem Pd{n:Nat}{es:List (List AV)}{len:Nat}{cs:List AV}(h:len<=es.length)(hn:es.length<=n)(hl:len<n):(CN es len cs).length<=n:=by
 grind[CN,List.length_set,List.length_append]
theorem Mt{w:Nat->Bool}{ws:List Nat}{b:Nat}:Ds w ws.length b=(GF w ws b).length:=by
 grind[Ds,GF]
theorem StackI.wait{n:Nat}{es:List (List AV)}{ws:List Nat}{w:Nat->Bool}(h:StackI n es ws)(hw:WaitI n w ws){b:Nat}(hb:b<n):StackI n (CQ w es ws.length b) (GF w ws b):=by
 unfold CQ GF
 cases e:w b with
 | true=>exact h
 | false=>
  have hlt:=(hw.wait hb).le;unfold GF at hlt;rw[e]at hlt;simp only[cond_false,List.length_append,List.length_cons,List.length_nil]at hlt;refine⟨?_,?_,Pd h.le h.max (by omega)⟩
  . simp only[cond_false,List.length_append,List.length_cons,List.length_nil];rw[Jp h.le,h.top,List.map_append];rfl
  . simp only[cond_false,List.length_append,List.length_cons,List.length_nil];exact KS h.le
theorem StackI.get{n:Nat}{es:List (List AV)}{ws:List Nat}{b:Nat}(h:StackI n es (ws++[b])):es[ws.length]?=some (By b):=by
 have h1:=congrArg (fun l=>l[ws.length]?) h.top
 grind
theorem StackI.pop{n:Nat}{es:List (List AV)}{ws:List Nat}{b:Nat}(h:StackI n es (ws++[b])):StackI n es ws:=by
 refine⟨?_,by have:=h.le;simp at this;omega,h.max⟩;have h1:=congrArg (List.take ws.length) h.top
 grind
theorem Si{n R:Nat}{I I':BB}(h: ∀b,b<n->Bk R (I b)=Bk R (I' b)):rI n R I=rI n R I':=funext fun b=>by
 unfold rI Cy
 by_cases hb:b<n
 . rw[if_pos hb,if_pos hb];show AObj.row true 1 _=AObj.row true 1 _;rw[h b hb]
 grind
theorem ZK{n R:Nat}{I:BB}{b:Nat}{p q:Nat->Bool}(h:Bk R p=Bk R q):rI n R (AS I b p)=rI n R (AS I b q):=Si fun c _=>by
 unfold AS;split
 . exact h
 . rfl
theorem VL{n R:Nat}{I:BB}{b:Nat}{p:Nat->Bool}(h:Bk R (I b)=Bk R p):rI n R I=rI n R (AS I b p):=Si fun c _=>by
 unfold AS;split
 . subst_vars;exact h
 . rfl
theorem dz{n R:Nat}{I:BB}{r1 r2:Nat->AObj}{b:Nat}(h:b<n):F3 (rI n R I) r1 r2 (3*b+0)= .row true 1 (Bk R (I b)):=(n0 _ _ _ _).trans (Ea h)
theorem nv{n R:Nat}{O:BB}{r0 r2:Nat->AObj}{b:Nat}(h:b<n):F3 r0 (rI n R O) r2 (3*b+1)= .row true 1 (Bk R (O b)):=(nZ _ _ _ _).trans (Ea h)
theorem VJ{n R:Nat}{I:BB}{r1 r2:Nat->AObj}{b:Nat}{p:Nat->Bool}(h:b<n):F3 (rI n R (AS I b p)) r1 r2 (3*b+0)= .row true 1 (Bk R p):=by rw[dz h,BE]
theorem Pa{n R:Nat}{O:BB}{r0 r2:Nat->AObj}{b:Nat}{p:Nat->Bool}(h:b<n):F3 r0 (rI n R (AS O b p)) r2 (3*b+1)= .row true 1 (Bk R p):=by rw[nv h,BE]
theorem ZH{n R:Nat}{I:BB}{b:Nat}{p p':Nat->Bool}(hb:b<n):rI n R (AS I b p')=Jg (rI n R (AS I b p)) b (.row true 1 (Bk R p')):=by
 have:=FM (k:=n) (o:=fun c=>Ef R (AS I b p c)) (o':=fun c=>Ef R (AS I b p' c)) hb (fun c hc=>by rw[Dj _ hc,Dj _ hc]);refine this.trans ?_;rw[BE];rfl
theorem ZF{n R:Nat}{O:BB}{r0 r2:Nat->AObj}{b k:Nat}{p p':Nat->Bool}{cs:List AV}(h:b<n)(hs:(Bk R p).set k cs=Bk R p')(x:Nat):
 F3 r0 (rI n R (AS O b p')) r2 x=if x=3*b+1 then .row true 1 ((Bk R p).set (0+((k:Nat):Int).toNat) cs)else F3 r0 (rI n R (AS O b p)) r2 x:=by
 rw[ZH (p:=p) h,fQ,Nat.zero_add,Int.toNat_natCast,hs]
theorem ZG{n R:Nat}{I:BB}{r1 r2:Nat->AObj}{b k:Nat}{p p':Nat->Bool}{cs:List AV}(h:b<n)(hs:(Bk R p).set k cs=Bk R p')(x:Nat):
 F3 (rI n R (AS I b p')) r1 r2 x=if x=3*b+0 then .row true 1 ((Bk R p).set (0+((k:Nat):Int).toNat) cs)else F3 (rI n R (AS I b p)) r1 r2 x:=by
 rw[ZH (p:=p) h,fR,Nat.zero_add,Int.toNat_natCast,hs]
theorem AT{k:Nat->Bool}{n R:Nat}{I:BB}(b:Nat):(rI n R I b).avoid k=true:=Ej (fun _=>rfl) b
theorem nr{n R:Nat}{I:BB}{b:Nat}{p:Nat->Bool}{r1 r2:Nat->AObj}(h: ∀v,I b v=p v)(x:Nat):F3 (rI n R I) r1 r2 x=F3 (rI n R (AS I b p)) r1 r2 x:=by rw[VL (Dz h)]
theorem nq{n R:Nat}{O:BB}{b:Nat}{p:Nat->Bool}{r0 r2:Nat->AObj}(h: ∀v,O b v=p v)(x:Nat):F3 r0 (rI n R O) r2 x=F3 r0 (rI n R (AS O b p)) r2 x:=by rw[VL (Dz h)]
theorem Zm{n R:Nat}{I:BB}{b:Nat}{p q:Nat->Bool}{r1 r2:Nat->AObj}(h:Bk R p=Bk R q)(x:Nat):F3 (rI n R (AS I b p)) r1 r2 x=F3 (rI n R (AS I b q)) r1 r2 x:=by rw[ZK h]
theorem Zl{n R:Nat}{O:BB}{b:Nat}{p q:Nat->Bool}{r0 r2:Nat->AObj}(h:Bk R p=Bk R q)(x:Nat):F3 r0 (rI n R (AS O b p)) r2 x=F3 r0 (rI n R (AS O b q)) r2 x:=by rw[ZK h]
theorem aA{p q:Nat->Bool}{k:Nat}{z:Bool}(h:((((wd (fun v=>p (64*k+v)):Nat):Int)) !=((wd (fun v=>q (64*k+v)):Nat):Int))=z):(Ow p k !=Ow q k)=z:=by
 rw[<-h]
 grind[wd,Ow]
theorem Yr{a b:Nat}(h:(a !=b)=false):a=b:=by simpa using h
theorem Pl{P:Program}{o:Oper}{e:As}{h:Ab}{g:FuncId}{fn:Func}{args:Array Operand}{tys:Array TypeId}{xs:List AV}{r:AV}(z:Nat){q:AObj}
 (ho:o.op= .call {callee:=.value (.func g),args:=args,argTypes:=tys}) (hf:P.funcs[g]?=some fn) (hn:(fn.name== "runtime.NumGoroutine")=false) (hb:fn.body.isSome=true) (hx:AR e args.toList=some xs)
 (hxa:xs.all (AV.avoid (mem [z]))=true) (hz:h z=some .free) (hq:q.avoid (mem [z])=true) (hra:r.avoid (mem [z])=true)
 (hcall:ACall P g xs (hput hNew z .free) (fun r' h'=>r'=r/\HSub (hput hNone z q) h')):OLoc P o e h [z] [(z,q)] (some r):=
 KW (hc:=hput hNew z .free) (hw:=hput hNone z q) [z] [(z,q)] ho hf hn hb hx hxa ⟨⟨.free,hz,rfl⟩,trivial⟩ (by simp[J5]) (Bq hz (Ce h)) ⟨⟨q,Ap _ _ _,Ap _ _ _,hq⟩,trivial⟩ hra hcall
def Wk(x y:AV):Prop:=(x.cell1=true->y.cell1=true)/\∀H ι v,Rel H ι x v->Rel H ι y v
theorem Wk.refl(x:AV):Wk x x:=⟨fun h=>h,fun _ _ _ h=>h⟩
theorem Wk.nil(b:Nat):Wk .nil (D1 b []):=⟨fun _=>rfl,fun H ι v h=>Zq h⟩
def WkAll:List AV->List AV->Prop
  | [],[]=>True
  | x::xs,y::ys=>Wk x y/\WkAll xs ys
  | _,_=>False
theorem WkAll.len: ∀{xs ys:List AV},WkAll xs ys->ys.length=xs.length
 | [],[],_=>rfl
 | x::xs,y::ys,h=>by rw[List.length_cons,List.length_cons,WkAll.len h.2]
theorem WkAll.get: ∀{xs ys:List AV},WkAll xs ys->∀(j:Nat) (x y:AV),xs[j]?=some x->ys[j]?=some y->Wk x y
 | [],[],_,j,x,y,h1,h2=>by simp at h1
 | a::xs,b::ys,h,0,x,y,h1,h2=>by cases h1;cases h2;exact h.1
 | a::xs,b::ys,h,j+1,x,y,h1,h2=>WkAll.get h.2 j x y h1 h2
theorem Ms{cs cs':List AV}(h:WkAll cs cs'): ∀(i:Nat) (ds ds':List AV),[cs][i]?=some ds->[cs'][i]?=some ds'->ds'.length=ds.length/\∀(j:Nat) (x y:AV),ds[j]?=some x->ds'[j]?=some y->(x.cell1=true->y.cell1=true)/\∀H ι v,Rel H ι x v->Rel H ι y v:=fun i ds ds' h1 h2=>by
 cases i with
 | zero=>cases h1;cases h2;exact⟨h.len,fun j x y g1 g2=>h.get j x y g1 g2⟩
 | succ i=>simp at h1
theorem weak_col{n:Nat}{x:AV}{g:Nat->AV}(h: ∀b,Wk x (g b)): ∀(i:Nat) (ds ds':List AV),(List.replicate n [x])[i]?=some ds->(Aw g n)[i]?=some ds'->ds'.length=ds.length/\∀(j:Nat) (x y:AV),ds[j]?=some x->ds'[j]?=some y->(x.cell1=true->y.cell1=true)/\∀H ι v,Rel H ι x v->Rel H ι y v:=fun i ds ds' h1 h2=>by
 grind[TD,List.mem_of_getElem?,Wk,Aw]
abbrev nR(f:BFunc)(R k:Nat):List AV:=[AU f.nexts,.ref 7 f.blocks.length 0 f.blocks.length,D1 8 ((f.blocks.take k).map (TU R)),D1 9 ((f.blocks.take k).map (TS R)),D1 3 (Aw (rG 0 (nw R)) k),D1 4 (Aw (rG 1 (nw R)) k),.nil,.ref 5 f.blocks.length 0 f.blocks.length]
theorem Ix(f:BFunc)(R:Nat){k0:Nat}(h:10<=k0){a b c d:List (List AV)}:(AObj.row false 8 [[AU f.nexts,AV.ref 7 f.blocks.length 0 f.blocks.length,D1 8 a,D1 9 b,D1 3 c,D1 4 d,AV.nil,AV.ref 5 f.blocks.length 0 f.blocks.length]]).avoid (kf k0)=true:=by
 have hk: ∀c,c<10->kf k0 c=true:=fun c hc=>fF (by omega)
 show(List.all [_,_,_,_,_,_,_,_] (AV.avoid (kf k0))&&true)=true;simp only[List.all_cons,List.all_nil,Bool.and_true,Bool.and_eq_true];exact⟨rfl,hk 7 (by omega),B8 _ (hk 8 (by omega)),B8 _ (hk 9 (by omega)),B8 _ (hk 3 (by omega)),B8 _ (hk 4 (by omega)),rfl,hk 5 (by omega)⟩
theorem i4{n d k:Nat}{A A':Nat->List Nat}(h: ∀c,A' c=if c=d then A c++[k]else A c):(Aw (Oj A) n).set (0+d) [D1 (3*d+2+16) ((A d).map By++[By k])]=Aw (Oj A') n:=by
 grind[GY,CM,Oj,Aw,D1,By]
theorem iq{n d k:Nat}{A A':Nat->List Nat}{r0 r1:Nat->AObj}(hd:d<n)(h: ∀c,A' c=if c=d then A c++[k]else A c)(x:Nat):F3 r0 r1 (rA n A') x=if x=3*d+2 then Hw 1 ((A d).map By++[By k])else F3 r0 r1 (rA n A) x:=by
 have e:rA n A'=Jg (rA n A) d (Hw 1 ((A' d).map By)):=FM hd fun c hc=>by rw[h,if_neg hc]
 grind[nY,F3,rA,Hw,By]
theorem Sj{n:Nat}{A A':Nat->List Nat}(h: ∀c,A c=A' c):rA n A=rA n A':=by rw[funext h]
theorem ir{n:Nat}{A:Nat->List Nat}{r0 r1:Nat->AObj}{b:Nat}(h:b<n):F3 r0 r1 (rA n A) (3*b+2)=Hw 1 ((A b).map By):=(qp _ _ _ _).trans (Ea h)
theorem dy{k R:Nat}{I:BB}{r1 r2:Nat->AObj}:F3 (rI k R I) r1 r2 (3*k+0)= .free:=(n0 _ _ _ _).trans (Jk (Nat.le_refl _))
theorem dw{k R:Nat}{O:BB}{r0 r2:Nat->AObj}:F3 r0 (rI k R O) r2 (3*k+1)= .free:=(nZ _ _ _ _).trans (Jk (Nat.le_refl _))
abbrev B0:BB:=fun _ _=>false
theorem ZJ{k R:Nat}{r1 r2:Nat->AObj}(x:Nat):F3 (rI (k+1) R B0) r1 r2 x=if x=3*k+0 then Ef R (fun _=>false)else F3 (rI k R B0) r1 r2 x:=by
 unfold rI;rw[HR,fR]
theorem ZI{k R:Nat}{r0 r2:Nat->AObj}(x:Nat):F3 r0 (rI (k+1) R B0) r2 x=if x=3*k+1 then Ef R (fun _=>false)else F3 r0 (rI k R B0) r2 x:=by
 unfold rI;rw[HR,fQ]
theorem rI_start{n R x:Nat}:F3 (rI 0 R B0) (rI 0 R B0) (rA n (fun _=>[])) x= .free:=by
 unfold F3 rI rA Cy;rw[if_neg (Nat.not_lt_zero _)];split
 . rfl
 . split
   . rfl
   . split<;>rfl
theorem Zf{f:BFunc}{R k:Nat}{x:Block}(hx:f.blocks[k]?=some x):[AU f.nexts,AV.ref 7 f.blocks.length 0 f.blocks.length,D1 8 ((f.blocks.take k).map (TU R)++[TU R x]),D1 9 ((f.blocks.take k).map (TS R)++[TS R x]),D1 3 (Aw (rG 0 (nw R)) k++[[rG 0 (nw R) k]]),D1 4 (Aw (rG 1 (nw R)) k++[[rG 1 (nw R) k]]),AV.nil,AV.ref 5 f.blocks.length 0 f.blocks.length]=nR f R (k+1):=by
 have e: ∀g:Block->List AV,(f.blocks.take k).map g++[g x]=(f.blocks.take (k+1)).map g:=fun g=>by
  rw[List.take_add_one,hx,List.map_append];rfl
 rw[e (TU R),e (TS R),<-IX,<-IX]
theorem OL{f:BFunc}{k:Nat}{x:Block}(hx:f.blocks[k]?=some x)(g:Block->List AV):(f.blocks.take k).map g++[g x]=(f.blocks.take (k+1)).map g:=by
 rw[List.take_add_one,hx,List.map_append];rfl
theorem dg{f:BFunc}{R:Nat}(h:0<f.blocks.length):nR f R f.blocks.length=[AU f.nexts,AV.ref 7 f.blocks.length 0 f.blocks.length,.ref 8 f.blocks.length 0 f.blocks.length,.ref 9 f.blocks.length 0 f.blocks.length,.ref 3 f.blocks.length 0 f.blocks.length,.ref 4 f.blocks.length 0 f.blocks.length,AV.nil,AV.ref 5 f.blocks.length 0 f.blocks.length]:=by
 have e: ∀(t:Nat) (g:Block->List AV),D1 t ((f.blocks.take f.blocks.length).map g)= .ref t f.blocks.length 0 f.blocks.length:=fun t g=>by
  rw[List.take_length];have:=MG (b:=t) (es:=f.blocks.map g) (k:=0) (by rw[List.length_map];exact h)
  grind
 show [_,_,D1 8 _,D1 9 _,D1 3 _,D1 4 _,_,_]=_;rw[e,e,Vy h,Vy h]
theorem Vx{l:List Block}{g:Block->List AV}(h:0<l.length):Hw 1 (l.map g)= .row true 1 (l.map g):=by
 cases l with
 | nil=>simp at h
 | cons x l=>rfl
theorem IH{α:Type}{l:List α}{g:α->List AV}(h: ∀x,(g x).length=1): ∀cs∈l.map g,cs.length=1:=fun cs hc=>by
 grind
theorem FT{α:Type}{l:List α}{g:α->List AV}(h: ∀x,(g x).all AV.isPure1=true): ∀cs∈l.map g,cs.all AV.isPure1=true:=fun cs hc=>by
 grind
def kS:Nat->Bool:=fun c=>(Nat.ble 2 c&&Nat.blt c 10)||Nat.ble 16 c
def JV(h g:Ab):Ab:=fun c=>bif kS c then g c else h c
theorem aJ(x:Nat):kS (x+16)=true:=by
 unfold kS;rw[show Nat.ble 16 (x+16)=true by rw[Nat.ble_eq];omega];simp
theorem aK{c:Nat}(h:kS c=false):c=0\/c=1\/(10<=c/\c<16):=by
 unfold kS at h;simp only[Bool.or_eq_false_iff,Bool.and_eq_false_iff]at h;obtain⟨h1,h2⟩:=h;have h3: ¬16<=c:=fun e=>by rw[<-Nat.ble_eq]at e;rw[e]at h2;cases h2
 rcases h1 with h1 | h1
 . have: ¬2<=c:=fun e=>by rw[<-Nat.ble_eq]at e;rw[e]at h1;cases h1
   omega
 . have: ¬c<10:=fun e=>by
    have:Nat.blt c 10=true:=by unfold Nat.blt;rw[Nat.ble_eq];omega
    rw[this]at h1;cases h1
   omega
theorem Mc{c:Nat}(h:kS c=true):(2<=c/\c<10)\/16<=c:=by
 unfold kS at h
 (simp_all;done)
theorem JU(h g:Ab)(x:Nat):JV h g (x+16)=g (x+16):=by unfold JV;rw[aJ];rfl
theorem GM{h g:Ab}{c:Nat}(hc:kS c=true):JV h g c=g c:=by unfold JV;rw[hc];rfl
theorem QM{h g:Ab}{c:Nat}(hc:kS c=false):JV h g c=h c:=by unfold JV;rw[hc];rfl
theorem Yz(f:BFunc)(R:Nat)(es:List (List AV))(len:Nat)(w:Nat->Bool): ∀i,i<8->(TV (fe f R es len w) i).avoid kS=true:=fun i hi=>by
 have h3: ∀q b,(rG q (nw R) b).avoid kS=true:=fun q b=>by
  simp[rG,AV.avoid,AV.flat,aJ]
 have h7: ∀A b,(Oj A b).avoid kS=true:=fun A b=>B8 _ (aJ _)
 rcases(by omega:i=0\/i=1\/i=2\/i=3\/i=4\/i=5\/i=6\/i=7)with rfl | rfl | rfl | rfl | rfl | rfl | rfl | rfl
 . rfl
 . exact Ad (fun b _=>h3 0 b)
 . exact Ad (fun b _=>h3 1 b)
 . rfl
 . rfl
 . exact Ad (fun b _=>h7 _ b)
 . rfl
 . rfl
theorem cp(f:BFunc)(R:Nat)(es:List (List AV))(len:Nat)(w:Nat->Bool)(F:Nat->AObj){i:Nat}(hi:i<8):HS f R es len w F (2+i)=some (TV (fe f R es len w) i):=by
 show GV (nb _) F (2+i)=_;rw[Ia _ _ (by omega)];unfold nb;congr 1;rw[Nat.add_comm 2 i];rfl
theorem Ol{f:BFunc}{R:Nat}{es:List (List AV)}{len:Nat}{w:Nat->Bool}{F:Nat->AObj}(hF: ∀x,(F x).avoid kS=true){c:Nat}(hc:kS c=true): ∃q,HS f R es len w F c=some q/\q.avoid kS=true:=by
 rcases Mc hc with h | h
 . obtain⟨i,rfl⟩: ∃i,c=2+i:=⟨c-2,by omega⟩
   exact⟨_,cp f R es len w F (by omega),Yz f R es len w i (by omega)⟩
 . obtain⟨x,rfl⟩: ∃x,c=x+16:=⟨c-16,by omega⟩
   exact⟨_,Ao _ _ _,hF x⟩
def LowS(h:Ab):Nat->List AObj->Prop
  | _,[]=>True
  | i,o::L=>h i=some o/\LowS h (i+1) L
theorem LowS.get{h:Ab}: ∀{L:List AObj} {i c:Nat},LowS h i L->c<L.length->h (i+c)=some (TV L c)
 | o::L,i,0,hl,_=>hl.1
 | o::L,i,c+1,hl,hc=>by
  have:=LowS.get (L:=L) (i:=i+1) (c:=c) hl.2 (by simpa using hc);rw[show i+(c+1)=i+1+c by omega];exact this
theorem co{h:Ab}{f:BFunc}{R:Nat}{es:List (List AV)}{len:Nat}{w:Nat->Bool}{F:Nat->AObj}(h1:LowS h 2 (fe f R es len w))(h2: ∀x,h (x+16)=some (F x)){c:Nat}(hc:kS c=true):h c=HS f R es len w F c:=by
 rcases Mc hc with hh | hh
 . obtain⟨i,rfl⟩: ∃i,c=2+i:=⟨c-2,by omega⟩
   rw[cp f R es len w F (by omega)];exact h1.get (by show i<8;omega)
 . obtain⟨x,rfl⟩: ∃x,c=x+16:=⟨c-16,by omega⟩
   rw[h2];exact(Ao _ _ _).symm
theorem iG{h:Ab}{f:BFunc}{R:Nat}{es:List (List AV)}{len:Nat}{w:Nat->Bool}{F:Nat->AObj}(h1:LowS h 2 (fe f R es len w))(h2: ∀x,h (x+16)=some (F x)):HSub (JV hNone (HS f R es len w F)) h:=fun c o ho=>by
 cases e:kS c with
 | true=>rw[GM e]at ho;rw[co h1 h2 e];exact ho
 | false=>rw[QM e]at ho;cases ho
theorem M9{k:Nat}:CQ (fun b=>decide (b<k)) ((List.range k).map By) k k=(List.range (k+1)).map By:=by
 unfold CQ CN;simp[List.range_succ]
theorem KA(k:Nat):Cj (fun b=>decide (b<k)) k true=fun b=>decide (b<k+1):=funext fun c=>by
 grind[Cj]
theorem Pw(k:Nat):Ds (fun b=>decide (b<k)) k k=k+1:=by
 unfold Ds;simp
theorem aV{h:Ab}{f:BFunc}{R:Nat}{es:List (List AV)}{len:Nat}{w:Nat->Bool}{F:Nat->AObj}(h1:LowS h 2 (fe f R es len w))(h2: ∀x,h (x+16)=some (F x)):D3 h kS=HS f R es len w F:=funext fun c=>by
 unfold D3
 cases e:kS c with
 | true=>exact co h1 h2 e
 | false=>
  rcases aK e with rfl | rfl | hc
  . rfl
  . rfl
  . show some AObj.free=GV (nb (.free:: .free::fe f R es len w)) F c;rw[Ia _ _ (by omega)];show some AObj.free=some (TV (.free:: .free::fe f R es len w) c);rw[nth_out (by show 10<=c;omega)]
theorem Nm{P:Program}{o:Oper}{e:As}{h:Ab}{g:FuncId}{fn:Func}{args:Array Operand}{tys:Array TypeId}{xs:List AV}{r:AV}{f:BFunc}{R:Nat}{es es':List (List AV)}{len len':Nat}{w w':Nat->Bool}{F F':Nat->AObj}
 (ho:o.op= .call {callee:=.value (.func g),args:=args,argTypes:=tys}) (hf:P.funcs[g]?=some fn) (hn:(fn.name== "runtime.NumGoroutine")=false) (hb:fn.body.isSome=true) (hx:AR e args.toList=some xs)
 (hxa:xs.all (AV.avoid kS)=true) (h1:LowS h 2 (fe f R es len w)) (h2: ∀x,h (x+16)=some (F x)) (hF: ∀x,(F x).avoid kS=true) (hF': ∀x,(F' x).avoid kS=true) (hra:r.avoid kS=true)
 (hcall:ACall P g xs (HS f R es len w F) (fun r' h'=>r'=r/\HSub (HS f R es' len' w' F') h')):LR P o e h (JV h (HS f R es' len' w' F')) r:=
 J3 (hw:=HS f R es' len' w' F') kS ho hf hn hb hx hxa (fun b hb=>by rw[co h1 h2 hb];exact Ol hF hb) (aV h1 h2) (fun b hb=>QM hb)
  (fun b hb=>by obtain⟨q,q1,q2⟩:=Ol (f:=f) (R:=R) (es:=es') (len:=len') (w:=w') hF' hb;exact⟨q,q1,(GM hb).trans q1,q2⟩) hra hcall
theorem ED{α:Type}(l:List α):l=[]\/∃L b,l=L++[b]:=by
 cases h:l.reverse with
 | nil=>left;exact List.reverse_eq_nil_iff.1 h
 | cons b r=>right;exact⟨r.reverse,b,by rw[<-List.reverse_reverse l,h,List.reverse_cons]⟩
theorem T4(n:Nat):WaitI n (fun b=>decide (b<0)) []:=by
 refine⟨List.nodup_nil,fun b=>by simp,?_⟩
 induction n with
 | zero=>rfl
 | succ n ih=>rw[List.range_succ,List.map_append,List.sum_append,ih];simp
theorem HJ{n:Nat}: ∀k,k<=n->WaitI n (fun b=>decide (b<k)) (List.range k)
 | 0,_=>T4 n
 | k+1,h=>by
  have:=(HJ (n:=n) k (by omega)).push (b:=k) (by omega) (by simp);rw[KA,<-List.range_succ]at this;exact this
theorem stackI_range(n:Nat):StackI n ((List.range n).map By) (List.range n):=by
 refine⟨?_,by simp,by simp⟩;rw[List.take_of_length_le (by simp)]
theorem JZ{L:List Nat}{b:Nat}(h:L.length<=1000000):AX .sub (.int .i64 (((L++[b]).length:Nat):Int)) (.int .i64 1)=some (.int .i64 (L.length:Int)):=by
 grind[AX,BL,isShift,CB]
theorem dV{F F' n a b:Nat}(h:F'<F)(ha:a<=n):F'*(n+1)+a<F*(n+1)+b:=by
 have h1:(F'+1)*(n+1)<=F*(n+1):=Nat.mul_le_mul_right _ h
 grind
theorem dW{F F' n a b:Nat}(h:F'<=F)(ha:a<b):F'*(n+1)+a<F*(n+1)+b:=by
 have h1:F'*(n+1)<=F*(n+1):=Nat.mul_le_mul_right _ h;omega
structure LQ where
  I:BB
  O:BB
  w:Nat->Bool
  ws:List Nat
  es:List (List AV)
structure LQI(f:BFunc)(R:Nat)(q:LQ):Prop where
  k:LInv f R q.I q.O q.w []
  wt:WaitI f.blocks.length q.w q.ws
  st:StackI f.blocks.length q.es q.ws
def qM(f:BFunc)(R:Nat)(q:LQ):Nat:=D7 f.blocks.length (64*nw R) q.I*(f.blocks.length+1)+q.ws.length
def qA(n:Nat):LQ:=⟨B0,B0,fun b=>decide (b<n),List.range n,(List.range n).map By⟩
theorem LQI.first(f:BFunc)(R:Nat):LQI f R (qA f.blocks.length):=⟨LInv.first fun b hb=>decide_eq_true hb,HJ _ (Nat.le_refl _),stackI_range _⟩
structure LP where
  w:Nat->Bool
  ws:List Nat
  es:List (List AV)
  j:Nat
structure LPI(f:BFunc)(R:Nat)(I O:BB)(b:Nat)(p:LP):Prop where
  k:LInv f R I O p.w ((Au f b).drop p.j)
  wt:WaitI f.blocks.length p.w p.ws
  st:StackI f.blocks.length p.es p.ws
theorem LPI.next{f:BFunc}{R:Nat}{I O:BB}{b:Nat}{p:LP}{a:Nat}(h:LPI f R I O b p)(ha:(Au f b)[p.j]?=some a):LPI f R I O b ⟨I3 p.w a,GF p.w p.ws a,CQ p.w p.es p.ws.length a,p.j+1⟩:=by
 have hlt:=IY (List.mem_of_getElem? ha);have hk:=h.k;rw[List.drop_eq_getElem_cons (List.getElem?_eq_some_iff.1 ha).1,(List.getElem?_eq_some_iff.1 ha).2]at hk;exact⟨hk.wait,h.wt.wait hlt,h.st.wait h.wt hlt⟩
theorem LPI.done{f:BFunc}{R:Nat}{I O:BB}{b:Nat}{p:LP}(h:LPI f R I O b p)(hj:(Au f b).length<=p.j):LQI f R ⟨I,O,p.w,p.ws,p.es⟩:=by
 have hk:=h.k;rw[List.drop_eq_nil_iff.2 hj]at hk;exact⟨hk,h.wt,h.st⟩
theorem JE(f:BFunc)(c:Nat):(Au f c).length<=2*f.blocks.length+2:=by
 have:=F7 f f.blocks.length 0 c
 grind[C4,Au]
theorem EX{l:List (List Bool)}{k:Nat}{x:List Bool}(h:l[k]?=some x):(l.take k).map CO++[CO x]=(l.take (k+1)).map CO:=by
 rw[List.take_add_one,h,List.map_append];rfl
theorem NI{f:BFunc}{k:Nat}(h:k<f.blocks.length):(Hk f)[k]?=some (V9 f k):=by simp[Hk,h]
theorem Lz{f:BFunc}{k:Nat}{x:Block}(h:f.blocks[k]?=some x):(Hf f)[k]?=some (QR f x):=by simp[Hf,h]
theorem Lu{k0:Nat}(h:13<=k0){a b:List (List AV)}:(AObj.row false 2 [[D1 11 a,D1 12 b]]).avoid (kf k0)=true:=by
 have hk: ∀c,c<13->kf k0 c=true:=fun c hc=>fF (by omega)
 show(List.all [_,_] (AV.avoid (kf k0))&&true)=true
 grind[B8,D1,kf]
structure Site where
  at_:Nat
  r:Bool
  s:Bool
def D5(G:Nat->Bool):List Tac->Nat->List Tac
  | [],_=>[]
  | t::l,j=>bif G j then D5 G l (j+1)else t::D5 G l (j+1)
theorem QX(G:Nat->Bool)(l2:List Tac): ∀(l1:List Tac) (j:Nat),D5 G (l1++l2) j=D5 G l1 j++D5 G l2 (j+l1.length)
 | [],j=>by simp[D5]
 | t::l,j=>by
  rw[List.cons_append,D5,D5,QX G l2 l (j+1),List.length_cons]
  grind
theorem IM{G G':Nat->Bool}: ∀(l:List Tac) (j:Nat),(∀i,j<=i->i<j+l.length->G i=G' i)->D5 G l j=D5 G' l j
 | [],_,_=>rfl
 | t::l,j,h=>by
  rw[D5,D5,h j (Nat.le_refl _) (by simp),IM l (j+1) fun i h1 h2=>h i (by omega) (by simp;omega)]
theorem Mb(G:Nat->Bool): ∀(l:List Tac) (j:Nat),(D5 G l j).length<=l.length
 | [],_=>Nat.le_refl _
 | t::l,j=>by
  have:=Mb G l (j+1)
  grind[D5]
theorem SV: ∀(l:List Tac) (j:Nat),D5 (fun _=>false) l j=l
 | [],_=>rfl
 | t::l,j=>by rw[D5,SV l (j+1)];rfl
theorem Pz{G:Nat->Bool}{l:List Tac}{p:Nat}{t:Tac}(h:l[p]?=some t):D5 G l 0=D5 G (l.take p) 0++(bif G p then D5 G (l.drop (p+1)) (p+1)else t::D5 G (l.drop (p+1)) (p+1)):=by
 have hp:=(List.getElem?_eq_some_iff.1 h).1;have e:l=l.take p++t::l.drop (p+1):=by
  have:=List.drop_eq_getElem_cons hp;rw[(List.getElem?_eq_some_iff.1 h).2]at this;rw[<-this,List.take_append_drop]
 grind[QX,D5]
def Gb(z:Bool)(v:Nat):List Tac->Nat->List Site
  | [],j=>bif z then [⟨j,true,false⟩]else []
  | t::l,j=>bif t.uses.contains (v:Int)||t.sets==(v:Int)then⟨j,t.uses.contains (v:Int),t.sets==(v:Int)⟩::Gb z v l (j+1)else Gb z v l (j+1)
theorem Eh(z:Bool)(v:Nat)(t:Tac)(l:List Tac)(j:Nat):Gb z v (t::l) j=bif t.uses.contains (v:Int)||t.sets==(v:Int)then⟨j,t.uses.contains (v:Int),t.sets==(v:Int)⟩::Gb z v l (j+1)else Gb z v l (j+1):=rfl
def AY(x:Block)(v:Nat):List Site:=Gb (C2 x v) v x.ins 0
def leftS(G:Nat->Bool)(n:Nat)(s:Site):Bool:=s.at_==n|| !G s.at_
def CW(G:Nat->Bool)(n:Nat):List Site->Bool->Bool
  | [],z=>z
  | s::l,z=>bif leftS G n s then s.r||(!s.s&&CW G n l z)else CW G n l z
def CZ(G:Nat->Bool)(n:Nat):List Site->Nat
  | []=>0
  | s::l=>bif leftS G n s then(bif s.r then 1 else 2)else CZ G n l
theorem HZ{G G':Nat->Bool}{n:Nat}{z:Bool}: ∀{l:List Site},(∀s∈l,leftS G n s=leftS G' n s)->CW G n l z=CW G' n l z
 | [],_=>rfl
 | s::l,h=>by
  rw[CW,CW,h s (List.mem_cons.2 (.inl rfl)),HZ fun s hs=>h s (List.mem_cons.2 (.inr hs))]
theorem Hh{G:Nat->Bool}{n v:Nat}{e z:Bool}: ∀{l:List Tac} {j:Nat},j+l.length=n->CW G n (Gb e v l j) z=need v (D5 G l j) (e||z)
 | [],j,h=>by
  grind[Gb,CW,D5,need,leftS]
 | t::l,j,h=>by
  have ih:=Hh (G:=G) (n:=n) (v:=v) (e:=e) (z:=z) (l:=l) (j:=j+1) (by simp at h;omega)
  grind[Gb,D5,CW,need,leftS]
theorem Tp{G:Nat->Bool}{n:Nat}{z:Bool}: ∀{l:List Site},CZ G n l=1->CW G n l z=true
 | [],h=>by cases h
 | s::l,h=>by
  have ih:=Tp (G:=G) (n:=n) (z:=z) (l:=l)
  grind[CZ,CW,leftS]
theorem NS{G:Nat->Bool}{n:Nat}{z:Bool}: ∀{l:List Site},CZ G n l=0->CW G n l z=z
 | [],h=>rfl
 | s::l,h=>by
  have ih:=NS (G:=G) (n:=n) (z:=z) (l:=l)
  grind[CZ,CW,leftS]
theorem To{G:Nat->Bool}{n:Nat}{z:Bool}: ∀{l:List Site},(∀s∈l,(s.r||s.s)=true)->CZ G n l=2->CW G n l z=false
 | [],_,h=>by cases h
 | s::l,hs,h=>by
  have ih:=To (G:=G) (n:=n) (z:=z) (l:=l) (fun s h=>hs s (List.mem_cons.2 (.inr h)))
  grind[CZ,CW,leftS]
theorem firstS_le{G:Nat->Bool}{n:Nat}: ∀{l:List Site},CZ G n l=0\/CZ G n l=1\/CZ G n l=2
 | []=>.inl rfl
 | s::l=>by
  have ih:=firstS_le (G:=G) (n:=n) (l:=l)
  grind[CZ,leftS]
theorem MK{z:Bool}{v:Nat}: ∀{l:List Tac} {j:Nat},∀s∈Gb z v l j,(s.r||s.s)=true
 | [],j,s,h=>by
  grind[Gb]
 | t::l,j,s,h=>by
  unfold Gb at h
  cases e:t.uses.contains (v:Int)||t.sets==(v:Int)with
  | false=>rw[e]at h;exact MK s h
  | true=>
   rw[e]at h;rcases List.mem_cons.1 h with rfl | h
   . exact e
   . exact MK s h
theorem siF_get{z:Bool}{v:Nat}: ∀{l:List Tac} {j k:Nat} {s:Site},(Gb z v l j)[k]?=some s->
 (s.at_=j+l.length/\s.r=true/\s.s=false/\z=true/\k+1=(Gb z v l j).length)\/∃p t,s.at_=j+p/\l[p]?=some t/\s.r=t.uses.contains (v:Int)/\s.s=(t.sets==(v:Int))/\(Gb z v l j).drop (k+1)=Gb z v (l.drop (p+1)) (j+p+1)
 | [],j,k,s,h=>by
  grind[Gb]
 | t::l,j,k,s,h=>by
  have key: ∀k',(Gb z v l (j+1))[k']?=some s->(s.at_=j+(t::l).length/\s.r=true/\s.s=false/\z=true/\k'+1=(Gb z v l (j+1)).length)\/∃p u,s.at_=j+p/\(t::l)[p]?=some u/\s.r=u.uses.contains (v:Int)/\s.s=(u.sets==(v:Int))/\(Gb z v l (j+1)).drop (k'+1)=Gb z v ((t::l).drop (p+1)) (j+p+1):=fun k' h'=>by
   rcases siF_get h' with⟨h1,h2,h3,h4,h5⟩ |⟨p,u,h1,h2,h3,h4,h5⟩
   . exact .inl ⟨by rw[h1,List.length_cons];omega,h2,h3,h4,h5⟩
   . refine .inr ⟨p+1,u,by omega,h2,h3,h4,?_⟩;rw[h5,List.drop_succ_cons];congr 1;omega
  rw[Eh]at h |-
  cases e:t.uses.contains (v:Int)||t.sets==(v:Int)with
  | false=>rw[e]at h;simp only[cond_false]at h |-;exact key k h
  | true=>
   rw[e]at h;simp only[cond_true]at h |-
   cases k with
   | zero=>
    simp only[List.getElem?_cons_zero,Option.some.injEq]at h;subst h;exact .inr ⟨0,t,rfl,rfl,rfl,rfl,by simp⟩
   | succ k=>
    rw[List.getElem?_cons_succ]at h;rcases key k h with⟨h1,h2,h3,h4,h5⟩ | h1
    . exact .inl ⟨h1,h2,h3,h4,by rw[List.length_cons,h5]⟩
    . rw[List.drop_succ_cons];exact .inr h1
theorem Zc{z:Bool}{v:Nat}: ∀{l:List Tac} {j p:Nat} {t:Tac},l[p]?=some t->t.sets=(v:Int)->∃k s,(Gb z v l j)[k]?=some s/\s.at_=j+p/\s.s=true/\(Gb z v l j).drop (k+1)=Gb z v (l.drop (p+1)) (j+p+1)
 | [],j,p,t,h,_=>by simp at h
 | u::l,j,0,t,h,hs=>by
  simp only[List.getElem?_cons_zero,Option.some.injEq]at h;subst h;have e:(u.sets==(v:Int))=true:=by rw[hs];simp
  rw[Eh,e,Bool.or_true,cond_true];exact⟨0,_,rfl,rfl,rfl,by simp⟩
 | u::l,j,p+1,t,h,hs=>by
  obtain⟨k,s,h1,h2,h3,h4⟩:=Zc (z:=z) (l:=l) (j:=j+1) (p:=p) (by simpa using h) hs;have e2:Gb z v ((u::l).drop (p+1+1)) (j+(p+1)+1)=Gb z v (l.drop (p+1)) (j+1+p+1):=by
   grind
  rw[Eh]
  cases e:u.uses.contains (v:Int)||u.sets==(v:Int)with
  | false=>rw[cond_false];exact⟨k,s,h1,by omega,h3,by rw[e2];exact h4⟩
  | true=>rw[cond_true];exact⟨k+1,s,h1,by omega,h3,by rw[e2,List.drop_succ_cons];exact h4⟩
theorem Uh{z:Bool}{v:Nat}: ∀{l:List Tac} {j:Nat},∀s∈Gb z v l j,j<=s.at_/\s.at_<=j+l.length
 | [],j,s,h=>by
  grind[Gb]
 | t::l,j,s,h=>by
  unfold Gb at h;have key:s∈Gb z v l (j+1)->j<=s.at_/\s.at_<=j+(t::l).length:=fun h'=>by
   have:=Uh s h';simp only[List.length_cons];omega
  grind
abbrev GG:=Nat->Nat->Bool
def Cg(f:BFunc)(G:GG):BFunc:={f with blocks:=f.blocks.zipIdx.map fun p=>p.1.mid (D5 (G p.2) p.1.ins 0)}
theorem E9{f:BFunc}{G:GG}{b:Nat}{x:Block}(h:f.blocks[b]?=some x):(Cg f G).blocks[b]?=some (x.mid (D5 (G b) x.ins 0)):=by
 simp[Cg,h]
theorem Mj{f:BFunc}{G:GG}{b:Nat}{y:Block}(h:(Cg f G).blocks[b]?=some y): ∃x,f.blocks[b]?=some x/\y=x.mid (D5 (G b) x.ins 0):=by
 simp only[Cg,List.getElem?_map,List.getElem?_zipIdx,Option.map_map]at h
 grind
theorem cutF_len(f:BFunc)(G:GG):(Cg f G).blocks.length=f.blocks.length:=by simp[Cg]
theorem Yi(f:BFunc):Cg f (fun _ _=>false)=f:=by
 have:(Cg f (fun _ _=>false)).blocks=f.blocks:=by
  refine List.ext_getElem? fun i=>?_
  cases e:f.blocks[i]? with
  | none=>
   rw[List.getElem?_eq_none_iff]at e |-;rw[cutF_len];exact e
  | some x=>rw[E9 e,SV];rfl
 cases f
 grind[Cg]
def Dv(G:GG)(b p:Nat):GG:=fun c q=>G c q||(c==b&&q==p)
theorem ID(G:GG)(b p:Nat):Dv G b p b p=true:=by simp[Dv]
theorem Ft{G:GG}{b p c q:Nat}(h: ¬(c=b/\q=p)):Dv G b p c q=G c q:=by
 unfold Dv
 grind
theorem bD{f:BFunc}{G:GG}{b p:Nat}{x:Block}{t:Tac}(hx:f.blocks[b]?=some x)(ht:x.ins[p]?=some t)(hG:G b p=false):
 Cg f (Dv G b p)=(Cg f G).putB b (x.mid (D5 (G b) (x.ins.take p) 0++D5 (G b) (x.ins.drop (p+1)) (p+1))):=by
 have e:(Cg f (Dv G b p)).blocks=(Cg f G).blocks.set b (x.mid (D5 (G b) (x.ins.take p) 0++D5 (G b) (x.ins.drop (p+1)) (p+1))):=by
  refine List.ext_getElem? fun c=>?_
  rw[List.getElem?_set]
  by_cases hc:b=c
  . subst hc;have hlt:b<(Cg f G).blocks.length:=by rw[cutF_len];exact(List.getElem?_eq_some_iff.1 hx).1
    rw[if_pos rfl,if_pos hlt,E9 hx,Pz ht,ID,cond_true];have hlp:(x.ins.take p).length<=p:=by rw[List.length_take];exact Nat.min_le_left _ _
    rw[IM (G:=Dv G b p b) (G':=G b) (x.ins.take p) 0 fun i _ hi=>Ft (by omega),IM (G:=Dv G b p b) (G':=G b) (x.ins.drop (p+1)) (p+1) fun i hi _=>Ft (by omega)]
  . rw[if_neg hc]
    cases e:f.blocks[c]? with
    | none=>
     have h1:(Cg f (Dv G b p)).blocks[c]?=none:=by rw[List.getElem?_eq_none_iff]at e |-;rw[cutF_len];exact e
     have h2:(Cg f G).blocks[c]?=none:=by rw[List.getElem?_eq_none_iff]at e |-;rw[cutF_len];exact e
     rw[h1,h2]
    | some y=>
     rw[E9 e,E9 e,IM (G:=Dv G b p c) (G':=G c) y.ins 0 fun i _ _=>Ft (by omega)]
 have: ∀(g h:BFunc),g.blocks=h.blocks->g.regs=h.regs->g=h:=fun g h h1 h2=>by cases g;cases h;simp only at h1 h2;rw[h1,h2]
 exact this _ _ e rfl
theorem bF{f:BFunc}{G:GG}{b p v:Nat}{x:Block}{t:Tac}(hx:f.blocks[b]?=some x)(ht:x.ins[p]?=some t)(hG:G b p=false)(hp:t.pure=true)(hv:t.sets=(v:Int))
 (hd:need v (D5 (G b) (x.ins.drop (p+1)) (p+1)) (endB (Cg f G) x v)=false):
 Fa (Cg f G) (Cg f (Dv G b p)) b (x.mid (D5 (G b) x.ins 0)) (D5 (G b) (x.ins.take p) 0) t (D5 (G b) (x.ins.drop (p+1)) (p+1)) v where
 hx:=E9 hx
 hi:=by show D5 (G b) x.ins 0=_;rw[Pz ht,hG];rfl
 pure:=hp
 hv:=hv
 dead:=hd
 hg:=bD hx ht hG
def Lk(g:BFunc)(w:Nat):Prop:=∀h c x l1 t l2,¬Fa g h c x l1 t l2 w
theorem iT{f g:BFunc}{c:Nat}{x:Block}{l1 l2:List Tac}{t:Tac}{v:Nat}(h:Fa f g c x l1 t l2 v){w:Nat}(hw:t.uses.contains (w:Int)=false)(hvw:v≠w)(hn:Lk f w):Lk g w:=by
 intro k d y m1 u m2 h2;have hg:=h.hg
 by_cases hcd:c=d
 . subst hcd;have hy:=h2.hx;rw[hg,Eb h.hx]at hy
   cases hy
   have he:l1++l2=m1++u::m2:=h2.hi
   -- where the two lie
   rcases List.append_eq_append_iff.1 he with⟨a,ha1,ha2⟩ |⟨a,ha1,ha2⟩
   . -- u lies behind t
     subst ha1;refine hn _ c x (l1++t::a) u m2 {hx:=h.hx,hi:=by rw[h.hi,ha2];simp,pure:=h2.pure,hv:=h2.hv,dead:=?_,hg:=rfl};exact false_of (Bp (Mh h ⟨rfl,rfl,rfl⟩ hw)) h2.dead
   . cases a with
     | nil=>
      simp only[List.append_nil,List.nil_append]at ha1 ha2;subst ha1;refine hn _ c x (l1++[t]) u m2 {hx:=h.hx,hi:=by rw[h.hi,<-ha2];simp,pure:=h2.pure,hv:=h2.hv,dead:=?_,hg:=rfl};exact false_of (Bp (Mh h ⟨rfl,rfl,rfl⟩ hw)) h2.dead
     | cons q a=>
      simp only[List.cons_append,List.cons.injEq]at ha2;obtain⟨e1,e2⟩:=ha2;subst e1;subst ha1;refine hn _ c x m1 u (a++t::l2) {hx:=h.hx,hi:=by rw[h.hi];simp,pure:=h2.pure,hv:=h2.hv,dead:=?_,hg:=rfl};refine false_of (fun e=>?_) h2.dead;rw[e2];exact Bp (Mh h ⟨rfl,rfl,rfl⟩ hw) (KZ hw e)
 . have hy:=h2.hx;rw[hg,Hc hcd]at hy;exact hn _ d y m1 u m2 {hx:=hy,hi:=h2.hi,pure:=h2.pure,hv:=h2.hv,dead:=false_of (Bp (Mh h ⟨rfl,rfl,rfl⟩ hw)) h2.dead,hg:=rfl}
theorem VC(z:Bool)(v:Nat): ∀(l:List Tac) (j:Nat),(Gb z v l j).length<=l.length+1
 | [],j=>by cases z<;>simp[Gb]
 | t::l,j=>by
  have ih:=VC z v l (j+1)
  grind[Eh,Gb]
def firstG(f:BFunc)(G:GG)(v b:Nat):Nat:=((f.blocks[b]?).map fun x=>CZ (G b) x.ins.length (AY x v)).getD 0
theorem FC{f:BFunc}{G:GG}{v b:Nat}{x:Block}(h:f.blocks[b]?=some x):firstG f G v b=CZ (G b) x.ins.length (AY x v):=by unfold firstG;rw[h];rfl
theorem K6{f:BFunc}{G:GG}{v b:Nat}{x:Block}(hx:f.blocks[b]?=some x)(z:Bool):need v (D5 (G b) x.ins 0) (C2 x v||z)=CW (G b) x.ins.length (AY x v) z:=(Hh (by simp)).symm
theorem Yw{f:BFunc}{a c:Nat}(h:a∈Au f c): ∃x,f.blocks[a]?=some x/\(c:Int)∈x.nexts:=by
 grind[Au,OK]
def Lg(n:Nat)(w:Nat->Bool):Nat:=((List.range n).map fun b=>if w b then 0 else 1).sum
theorem Kl{w:Nat->Bool}{b:Nat}(h:w b=false): ∀{n:Nat},b<n->Lg n (Cj w b true)+1=Lg n w
 | 0,hb=>by omega
 | n+1,hb=>by
  unfold Lg;rw[List.range_succ,List.map_append,List.map_append,List.sum_append,List.sum_append];simp only[List.map_cons,List.map_nil,List.sum_cons,List.sum_nil,Nat.add_zero]
  by_cases hn:b=n
  . subst hn;rw[CR,h];have:((List.range b).map fun c=>if Cj w b true c then 0 else 1)=(List.range b).map fun c=>if w c then 0 else 1:=List.map_congr_left fun c hc=>by
     rw[CC _ (fun e=>by subst e;exact Nat.lt_irrefl _ (List.mem_range.1 hc))]
    rw[this];simp
  . rw[CC _ (fun e=>hn e.symm)];have ih:=Kl h (n:=n) (by omega);unfold Lg at ih;omega
structure BfI(f:BFunc)(G:GG)(v:Nat)(inn:Nat->Bool)(todo:List Nat)(b0:Nat)(rest:List Nat):Prop where
  sound: ∀b,inn b=true->b<f.blocks.length/\Db (Cg f G) v b
  src: ∀b,b<f.blocks.length->firstG f G v b=1->inn b=true
  cl: ∀c,inn c=true->c∉todo->∀a y,f.blocks[a]?=some y->(c:Int)∈y.nexts->firstG f G v a=0->inn a=true\/(c=b0/\a∈rest)
  tod: ∀c∈todo,inn c=true
  cnt:todo.length+Lg f.blocks.length inn<=f.blocks.length
theorem BfI.pop{f:BFunc}{G:GG}{v:Nat}{inn:Nat->Bool}{todo:List Nat}{b b1:Nat}(h:BfI f G v inn (todo++[b]) b1 []):BfI f G v inn todo b (Au f b):=
 ⟨h.sound,h.src,fun c hc hn a y hy hm ha=>by
  by_cases hcb:c=b
  . subst hcb;exact .inr ⟨rfl,Oi hy (List.contains_iff_mem.2 hm)⟩
  . exact(h.cl c hc (fun e=>by
     rcases List.mem_append.1 e with e | e
     . exact hn e
     . exact hcb (List.mem_singleton.1 e)) a y hy hm ha).elim .inl (fun e=>by cases e.2),fun c hc=>h.tod c (List.mem_append.2 (.inl hc)),by have:=h.cnt;simp at this;omega⟩
theorem BfI.skip{f:BFunc}{G:GG}{v:Nat}{inn:Nat->Bool}{todo:List Nat}{b a:Nat}{rest:List Nat}(h:BfI f G v inn todo b (a::rest))(hs: ¬(firstG f G v a=0/\inn a=false)):BfI f G v inn todo b rest:=
 ⟨h.sound,h.src,fun c hc hn a' y hy hm ha=>(h.cl c hc hn a' y hy hm ha).elim .inl fun⟨e1,e2⟩=>by
  rcases List.mem_cons.1 e2 with rfl | e2
  . grind
  . exact .inr ⟨e1,e2⟩,h.tod,h.cnt⟩
theorem BfI.push{f:BFunc}{G:GG}{v:Nat}{inn:Nat->Bool}{todo:List Nat}{b a:Nat}{rest:List Nat}(h:BfI f G v inn todo b (a::rest))(hb:inn b=true)(hab:a∈Au f b)(h0:firstG f G v a=0)(hi:inn a=false):
 BfI f G v (Cj inn a true) (todo++[a]) b rest:=by
 obtain⟨x,hx,hm⟩:=Yw hab;have hlt:=(List.getElem?_eq_some_iff.1 hx).1;refine⟨fun c hc=>?_,fun c hc h1=>?_,fun c hc hn a' y hy hm' ha=>?_,fun c hc=>?_,?_⟩
 . by_cases hca:c=a
   . subst hca;refine⟨hlt,.thru (d:=(b:Int)) (E9 hx) ?_ hm (by rw[Int.toNat_natCast];exact(h.sound b hb).2)⟩;show need v (D5 (G c) x.ins 0) true=true;have:=K6 (G:=G) (v:=v) hx true;rw[Bool.or_true]at this;rw[this,NS (by rw[<-FC hx];exact h0)]
   . rw[CC _ hca]at hc;exact h.sound c hc
 . by_cases hca:c=a
   . grind
   . rw[CC _ hca];exact h.src c hc h1
 . have hcn:c∉todo:=fun e=>hn (List.mem_append.2 (.inl e))
   have hca:c≠a:=fun e=>hn (List.mem_append.2 (.inr (List.mem_singleton.2 e)))
   rw[CC _ hca]at hc;rcases h.cl c hc hcn a' y hy hm' ha with h1 |⟨e1,e2⟩
   . left
     by_cases e:a'=a
     . subst e;rw[CR]
     . rw[CC _ e];exact h1
   . rcases List.mem_cons.1 e2 with rfl | e2
     . left;rw[CR]
     . exact .inr ⟨e1,e2⟩
 . by_cases hca:c=a
   . subst hca;rw[CR]
   . rw[CC _ hca];rcases List.mem_append.1 hc with hc | hc
     . exact h.tod c hc
     . exact absurd (List.mem_singleton.1 hc) hca
 . have:=h.cnt;have e:=Kl hi hlt
   grind
theorem BfI.any{f:BFunc}{G:GG}{v:Nat}{inn:Nat->Bool}{todo:List Nat}{b b':Nat}(h:BfI f G v inn todo b []):BfI f G v inn todo b' []:=
 ⟨h.sound,h.src,fun c hc hn a y hy hm ha=>(h.cl c hc hn a y hy hm ha).elim .inl (fun e=>(by cases e.2)),h.tod,h.cnt⟩
theorem BfI.done{f:BFunc}(hs:f.sane){G:GG}{v:Nat}{inn:Nat->Bool}{b0:Nat}(h:BfI f G v inn [] b0 []){b:Nat}(hb:b<f.blocks.length):inn b=UM (Cg f G) v b:=by
 rw[Bool.eq_iff_iff,inB_iff];refine⟨fun e=>(h.sound b e).2,fun hl=>?_⟩;refine Nz (I:=inn) (fun c y hy hn=>?_) hl;obtain⟨x,hx,rfl⟩:=Mj hy;have hlt:=(List.getElem?_eq_some_iff.1 hx).1;have hn':need v (D5 (G c) x.ins 0) (C2 x v||x.nexts.any fun d=>inn d.toNat)=true:=hn;rw[K6 hx]at hn';rcases firstS_le (G:=G c) (n:=x.ins.length) (l:=AY x v)with h0 | h1 | h2
 . rw[NS h0]at hn';obtain⟨d,hd,hid⟩:=List.any_eq_true.1 hn';have h0':=(hs.next x (List.mem_of_getElem? hx) d hd).1;refine(h.cl d.toNat hid (by simp) c x hx (by rw[Int.toNat_of_nonneg h0'];exact hd) (by rw[FC hx];exact h0)).elim id fun e=>by cases e.2
 . exact h.src c hlt (by rw[FC hx];exact h1)
 . have e:=To (z:=x.nexts.any fun d=>inn d.toNat) (fun s hs=>MK s hs) h2;exact absurd (hn'.symm.trans e) (by simp)
def G3(inn:Nat->Bool)(x:Block):Bool:=x.nexts.any fun d=>inn d.toNat
structure RSd where
  G:GG
  w:Nat->Bool
  ws:List Nat
  es:List (List AV)
def FQ(st:RSd)(u:Nat):RSd:=⟨st.G,I3 st.w u,GF st.w st.ws u,CQ st.w st.es st.ws.length u⟩
def BM(b p:Nat)(us:List Int)(st:RSd):RSd:=us.foldl (fun st u=>FQ st u.toNat) ⟨Dv st.G b p,st.w,st.ws,st.es⟩
def I5(x:Block)(b:Nat)(st:RSd×Bool)(s:Site):RSd×Bool:=
  bif leftS (st.1.G b) x.ins.length s then
    (match x.ins[s.at_]? with
    | some t=>bif s.s&&(!st.2&&t.pure)then(BM b s.at_ t.uses st.1,st.2)else(st.1,s.r||(!s.s&&st.2))
    | none=>(st.1,s.r||(!s.s&&st.2)))
  else st
def Rp(inn:Nat->Bool)(v:Nat)(x:Block)(b:Nat)(st:RSd):RSd:=((AY x v).reverse.foldl (I5 x b) (st,G3 inn x)).1
structure QId(R:Nat)(st:RSd):Prop where
  wt:WaitI R st.w st.ws
  st:StackI R st.es st.ws
theorem QId.push{R:Nat}{st:RSd}(h:QId R st){u:Nat}(hu:u<R):QId R (FQ st u):=⟨h.wt.wait hu,h.st.wait h.wt hu⟩
theorem QId.leave{R:Nat}{b p:Nat}: ∀{us:List Int} {st:RSd},QId R st->(∀u∈us,0<=u/\u<R)->QId R (us.foldl (fun st u=>FQ st u.toNat) st)
 | [],st,h,_=>h
 | u::us,st,h,hu=>by
  rw[List.foldl_cons];refine QId.leave (b:=b) (p:=p) (h.push ?_) fun u' h'=>hu u' (List.mem_cons.2 (.inr h'))
  (simp_all;done)
theorem Su: ∀(us:List Int) (st:RSd) (w:Nat),(us.foldl (fun st u=>FQ st u.toNat) st).w w=(st.w w||us.any fun u=>u.toNat==w)
 | [],st,w=>by simp
 | u::us,st,w=>by
  rw[List.foldl_cons,Su us];show(Cj st.w u.toNat true w||_)=_
  grind[CR,CC,FQ]
theorem Sw: ∀(us:List Int) (st:RSd),(us.foldl (fun st u=>FQ st u.toNat) st).G=st.G
 | [],st=>rfl
 | u::us,st=>by rw[List.foldl_cons,Sw us];rfl
theorem L7(b p:Nat)(us:List Int)(st:RSd):(BM b p us st).G=Dv st.G b p:=Sw _ _
structure RgI(f:BFunc)(R v:Nat)(inn:Nat->Bool)(m0:Nat)(st:RSd)(lo:Nat->Nat):Prop where
  c:Cuts f (Cg f st.G)
  le: ∀b,Db (Cg f st.G) v b->inn b=true
  ex:st.w v=false->∀b,b<f.blocks.length->inn b=true->Db (Cg f st.G) v b
  oth: ∀u,u≠v->st.w u=false->Lk (Cg f st.G) u
  q:QId R st
  ms:aM (Cg f st.G)*(R+1)+st.ws.length<=m0
  proc: ∀b x k s t,f.blocks[b]?=some x->lo b<=k->(AY x v)[k]?=some s->s.s=true->leftS (st.G b) x.ins.length s=true->x.ins[s.at_]?=some t->t.pure=true->CW (st.G b) x.ins.length ((AY x v).drop (k+1)) (G3 inn x)=true
theorem Yu{f:BFunc}(hs:f.sane){G:GG}{v:Nat}{inn:Nat->Bool}{x:Block}(hx:x∈f.blocks)(h: ∀b,Db (Cg f G) v b->inn b=true):outB (Cg f G) x v=true->G3 inn x=true:=fun e=>by
 obtain⟨d,h1,h2⟩:=outB_iff.1 e;exact List.any_eq_true.2 ⟨d,h1,h _ h2⟩
theorem nl(lo:Nat->Nat)(b k:Nat): ∃lo':Nat->Nat,lo' b=k/\∀c,c≠b->lo' c=lo c:=⟨fun c=>if c=b then k else lo c,by simp,fun c hc=>by simp[hc]⟩
theorem Qw{z:Bool}{v:Nat}{l:List Tac}{k k':Nat}{s s':Site}(h:(Gb z v l 0)[k]?=some s)(h':(Gb z v l 0)[k']?=some s')(hlt:k<k'):s.at_<s'.at_:=by
 rcases siF_get h with⟨h1,h2,h3,h4,h5⟩ |⟨p,t,h1,h2,h3,h4,h5⟩
 . grind
 . have e:((Gb z v l 0).drop (k+1))[k'-(k+1)]?=some s':=by
    rw[List.getElem?_drop,show k+1+(k'-(k+1))=k' by omega];exact h'
   rw[h5]at e;have:=(Uh s' (List.mem_of_getElem? e)).1;omega
theorem RgI.leave{f:BFunc}(hs:f.sane){R v:Nat}{inn:Nat->Bool}{m0:Nat}{st:RSd}{lo lo':Nat->Nat}(h:RgI f R v inn m0 st lo){b k:Nat}{x:Block}{s:Site}{t:Tac}(hx:f.blocks[b]?=some x)(hlo:lo b=k+1)(hk:(AY x v)[k]?=some s)
 (hss:s.s=true) (hl:leftS (st.G b) x.ins.length s=true) (ht:x.ins[s.at_]?=some t) (hp:t.pure=true) (hb:CW (st.G b) x.ins.length ((AY x v).drop (k+1)) (G3 inn x)=false) (hR: ∀u∈t.uses,0<=u/\u<R)
 (h1:lo' b=k) (h2: ∀c,c≠b->lo' c=lo c):RgI f R v inn m0 (BM b s.at_ t.uses st) lo':=by
 have hxm:=List.mem_of_getElem? hx;obtain⟨p,t',hat,ht',hr,hsv,hdr⟩: ∃p t',s.at_=0+p/\x.ins[p]?=some t'/\s.r=t'.uses.contains (v:Int)/\s.s=(t'.sets==(v:Int))/\(AY x v).drop (k+1)=Gb (C2 x v) v (x.ins.drop (p+1)) (0+p+1):=by
  rcases siF_get hk with⟨_,_,e,_,_⟩ | e
  . grind
  . exact e
 rw[Nat.zero_add]at hat hdr;subst hat;rw[ht]at ht';cases ht';have hplt:=(List.getElem?_eq_some_iff.1 ht).1;have hGp:st.G b s.at_=false:=by
  unfold leftS at hl;have:(s.at_==x.ins.length)=false:=by rw[beq_eq_false_iff_ne];omega
  rw[this,Bool.false_or]at hl;simpa using hl
 have hsets:t.sets=(v:Int):=by rw[hss]at hsv;simpa using hsv.symm
 have hnd:need v (D5 (st.G b) (x.ins.drop (s.at_+1)) (s.at_+1)) (endB (Cg f st.G) x v)=false:=by
  have e:=Hh (G:=st.G b) (n:=x.ins.length) (v:=v) (e:=C2 x v) (z:=G3 inn x) (l:=x.ins.drop (s.at_+1)) (j:=s.at_+1) (by rw[List.length_drop];omega);rw[<-hdr,hb]at e;refine false_of (Bp fun e2=>?_) e.symm;unfold endB at e2;rcases Bool.or_eq_true_iff.1 e2 with e2 | e2
  . rw[e2];rfl
  . rw[Yu hs hxm h.le e2,Bool.or_true]
 have hcut:=bF hx ht hGp hp hsets hnd;have hG:(BM b s.at_ t.uses st).G=Dv st.G b s.at_:=L7 _ _ _ _;have hw: ∀u,(BM b s.at_ t.uses st).w u=(st.w u||t.uses.any fun a=>a.toNat==u):=fun u=>Su _ _ _
 have hnou: ∀u,(BM b s.at_ t.uses st).w u=false->st.w u=false/\t.uses.contains (u:Int)=false:=fun u hu=>by
  rw[hw,Bool.or_eq_false_iff]at hu;refine⟨hu.1,?_⟩
  cases e:t.uses.contains (u:Int)with
  | false=>rfl
  | true=>
   have:(t.uses.any fun a=>a.toNat==u)=true:=List.any_eq_true.2 ⟨(u:Int),List.contains_iff_mem.1 e,by simp⟩;rw[this]at hu;cases hu.2
 have hq:QId R (BM b s.at_ t.uses st):=QId.leave (b:=b) (p:=s.at_) (st:=⟨Dv st.G b s.at_,st.w,st.ws,st.es⟩) ⟨h.q.wt,h.q.st⟩ hR;have hsz:=Gn ⟨_,_,_,_,_,_,hcut⟩;refine⟨?_,?_,?_,?_,hq,?_,?_⟩
 . rw[hG];exact h.c.trans (.one ⟨_,_,_,_,_,_,hcut⟩)
 . rw[hG];exact fun c hc=>h.le c (Pu hcut hc)
 . rw[hG];intro hv c hc hi;have:=hnou v hv;exact V2 hcut this.2 (h.ex this.1 c hc hi)
 . rw[hG];intro u huv hu;have:=hnou u hu;exact iT hcut this.2 (fun e=>huv e.symm) (h.oth u huv this.1)
 . rw[hG];have hms:=h.ms;have hle:=hq.wt.le;have:aM (Cg f st.G)*(R+1)=aM (Cg f (Dv st.G b s.at_))*(R+1)+(R+1):=by rw[<-hsz,Nat.succ_mul]
   omega
 . rw[hG];intro c y k' s' t' hy hk' hs' hss' hl' ht' hp'
   by_cases hcb:c=b
   . subst hcb;rw[hx]at hy;cases hy;rw[h1]at hk'
     by_cases hkk:k'=k
     . subst hkk;rw[hk]at hs';cases hs';have:leftS (Dv st.G c s.at_ c) x.ins.length s=false:=by
        unfold leftS;rw[ID];have:(s.at_==x.ins.length)=false:=by rw[beq_eq_false_iff_ne];omega
        rw[this];rfl
       rw[this]at hl';cases hl'
     . have hlt:k<k':=by omega
       have hne:=Qw hk hs' hlt;have e1:leftS (Dv st.G c s.at_ c) x.ins.length s'=leftS (st.G c) x.ins.length s':=by
        unfold leftS;rw[Ft (by omega)]
       rw[e1]at hl';have:=h.proc c x k' s' t' hx (by omega) hs' hss' hl' ht' hp';rw[<-this];refine HZ fun q hq=>?_
       obtain⟨i,hi⟩:=List.mem_iff_getElem?.1 hq;rw[List.getElem?_drop]at hi;have hne2:=Qw hk hi (by omega);unfold leftS;rw[Ft (by omega)]
   . rw[h2 c hcb]at hk';have hGc:Dv st.G b s.at_ c=st.G c:=funext fun q=>Ft (fun e=>hcb e.1)
     rw[hGc]at hl' |-;exact h.proc c y k' s' t' hy hk' hs' hss' hl' ht' hp'
theorem RgI.keep{f:BFunc}{R v:Nat}{inn:Nat->Bool}{m0:Nat}{st:RSd}{lo lo':Nat->Nat}(h:RgI f R v inn m0 st lo){b k:Nat}{x:Block}{s:Site}(hx:f.blocks[b]?=some x)(hlo:lo b=k+1)(hk:(AY x v)[k]?=some s)
 (hb:s.s=true->leftS (st.G b) x.ins.length s=true->∀t,x.ins[s.at_]?=some t->t.pure=true->CW (st.G b) x.ins.length ((AY x v).drop (k+1)) (G3 inn x)=true)
 (h1:lo' b=k) (h2: ∀c,c≠b->lo' c=lo c):RgI f R v inn m0 st lo':=
 ⟨h.c,h.le,h.ex,h.oth,h.q,h.ms,fun c y k' s' t' hy hk' hs' hss' hl' ht' hp'=>by
  by_cases hcb:c=b
  . subst hcb;rw[hx]at hy;cases hy;rw[h1]at hk'
    by_cases hkk:k'=k
    . subst hkk;rw[hk]at hs';cases hs';exact hb hss' hl' t' ht' hp'
    . exact h.proc c x k' s' t' hx (by omega) hs' hss' hl' ht' hp'
  . rw[h2 c hcb]at hk';exact h.proc c y k' s' t' hy hk' hs' hss' hl' ht' hp'⟩
def Cx(inn:Nat->Bool)(v:Nat)(x:Block)(b:Nat)(st:RSd)(m:Nat):RSd×Bool:=((AY x v).reverse.take m).foldl (I5 x b) (st,G3 inn x)
theorem E1{inn:Nat->Bool}{v:Nat}{x:Block}{b:Nat}{st:RSd}{m k:Nat}{s:Site}(hk:(AY x v)[k]?=some s)(hm:m+k+1=(AY x v).length):Cx inn v x b st (m+1)=I5 x b (Cx inn v x b st m) s:=by
 unfold Cx;have e:(AY x v).reverse[m]?=some s:=by
  grind
 rw[List.take_add_one,e,List.foldl_append];rfl
theorem MH{inn:Nat->Bool}{v:Nat}{x:Block}{b:Nat}{st:RSd}{m:Nat}(h:(AY x v).length<=m):(Cx inn v x b st m).1=Rp inn v x b st:=by
 unfold Cx Rp;rw[List.take_of_length_le (by simpa using h)]
theorem RgI.sites{f:BFunc}(hs:f.sane){R v:Nat}(hRf:f.regs=(R:Int)){inn:Nat->Bool}{m0:Nat}{st:RSd}{lo:Nat->Nat}{b:Nat}{x:Block}(hx:f.blocks[b]?=some x)(h:RgI f R v inn m0 st lo)(hlo:lo b=(AY x v).length):
 ∀m,m<=(AY x v).length->∃lo',RgI f R v inn m0 (Cx inn v x b st m).1 lo'/\lo' b=(AY x v).length-m/\(∀c,c≠b->lo' c=lo c)/\(Cx inn v x b st m).2=CW ((Cx inn v x b st m).1.G b) x.ins.length ((AY x v).drop ((AY x v).length-m)) (G3 inn x)
 | 0,_=>⟨lo,h,by simpa using hlo,fun _ _=>rfl,by
  show G3 inn x=CW _ _ ((AY x v).drop _) _;rw[Nat.sub_zero,List.drop_length];rfl⟩
 | m+1,hm=>by
  obtain⟨lo1,h1,h2,h3,h4⟩:=RgI.sites hs hRf hx h hlo m (by omega);obtain⟨k,hk⟩: ∃k,m+k+1=(AY x v).length:=⟨(AY x v).length-m-1,by omega⟩
  obtain⟨s,hsk⟩:=Ae (l:=AY x v) (k:=k) (by omega);rw[show(AY x v).length-(m+1)=k by omega];rw[show(AY x v).length-m=k+1 by omega]at h2 h4;obtain⟨lo2,l1,l2⟩:=nl lo1 b k;have hdk:(AY x v).drop k=s::(AY x v).drop (k+1):=by
   rw[List.drop_eq_getElem_cons (List.getElem?_eq_some_iff.1 hsk).1,(List.getElem?_eq_some_iff.1 hsk).2]
  rw[E1 hsk hk];generalize Cx inn v x b st m=S at h1 h4 |-;unfold I5
  cases hl:leftS (S.1.G b) x.ins.length s with
  | false=>
   rw[cond_false];refine⟨lo2,h1.keep hx h2 hsk (fun _ e=>by rw[hl]at e;cases e) l1 l2,l1,fun c hc=>(l2 c hc).trans (h3 c hc),?_⟩;rw[hdk,CW,hl,cond_false];exact h4
  | true=>
   rw[cond_true];have keep: ∀(hb:s.s=true->∀t,x.ins[s.at_]?=some t->t.pure=true->S.2=true),∃lo',RgI f R v inn m0 ((S.1,s.r||(!s.s&&S.2)):RSd×Bool).1 lo'/\lo' b=k/\(∀c,c≠b->lo' c=lo c)/\((S.1,s.r||(!s.s&&S.2)):RSd×Bool).2=CW (((S.1,s.r||(!s.s&&S.2)):RSd×Bool).1.G b) x.ins.length ((AY x v).drop k) (G3 inn x):=fun hb=>by
    refine⟨lo2,h1.keep hx h2 hsk (fun e1 _ t e2 e3=>by rw[<-h4];exact hb e1 t e2 e3) l1 l2,l1,fun c hc=>(l2 c hc).trans (h3 c hc),?_⟩;rw[hdk,CW,hl,cond_true];show(s.r||(!s.s&&S.2))=_;rw[h4]
   cases ht:x.ins[s.at_]? with
   | none=>exact keep (fun _ t e=>by rw[ht]at e;cases e)
   | some t=>
    cases hc:s.s&&(!S.2&&t.pure)with
    | false=>
     rw[show(match some t with | some t=>bif s.s&&(!S.2&&t.pure)then(BM b s.at_ t.uses S.1,S.2)else(S.1,s.r||(!s.s&&S.2)) | none=>(S.1,s.r||(!s.s&&S.2)))=(S.1,s.r||(!s.s&&S.2)) by simp only[hc,cond_false]];refine keep (fun e1 t' e2 e3=>?_);rw[ht]at e2;cases e2;rw[e1,e3]at hc;simpa using hc
    | true=>
     rw[show(match some t with | some t=>bif s.s&&(!S.2&&t.pure)then(BM b s.at_ t.uses S.1,S.2)else(S.1,s.r||(!s.s&&S.2)) | none=>(S.1,s.r||(!s.s&&S.2)))=(BM b s.at_ t.uses S.1,S.2) by simp only[hc,cond_true]];simp only[Bool.and_eq_true,Bool.not_eq_true']at hc;have hxm:=List.mem_of_getElem? hx;have hlow:=hs.low x hxm t (List.mem_of_getElem? ht);have hplt:=(List.getElem?_eq_some_iff.1 ht).1;refine⟨lo2,h1.leave hs hx h2 hsk hc.1 hl ht hc.2.2 (by rw[<-h4];exact hc.2.1) (fun u hu=>by have:=hlow.2 u hu;rw[hRf]at this;exact this) l1 l2,l1,fun c hcc=>(l2 c hcc).trans (h3 c hcc),?_⟩;rw[hdk,CW];have hg:leftS ((BM b s.at_ t.uses S.1).G b) x.ins.length s=false:=by
      unfold leftS;rw[L7,ID];have:(s.at_==x.ins.length)=false:=by rw[beq_eq_false_iff_ne];omega
      rw[this];rfl
     show S.2=bif leftS ((BM b s.at_ t.uses S.1).G b) x.ins.length s then _ else CW ((BM b s.at_ t.uses S.1).G b) _ _ _;rw[hg,cond_false,h4];refine HZ fun q hq=>?_
     obtain⟨i,hi⟩:=List.mem_iff_getElem?.1 hq;rw[List.getElem?_drop]at hi;have hne2:=Qw hsk hi (by omega);unfold leftS;rw[L7,Ft (by omega)]
def GK(f:BFunc)(v i:Nat):List Site:=((f.blocks[i]?).map fun x=>AY x v).getD []
theorem Do{f:BFunc}{v i:Nat}{x:Block}(h:f.blocks[i]?=some x):GK f v i=AY x v:=by unfold GK;rw[h];rfl
def Fb(f:BFunc)(v:Nat):List Nat:=(List.range f.blocks.length).filter fun i=> !(GK f v i).isEmpty
def Rq(f:BFunc)(inn:Nat->Bool)(v:Nat)(st:RSd)(b:Nat):RSd:=((f.blocks[b]?).map fun x=>Rp inn v x b st).getD st
theorem P8{f:BFunc}{inn:Nat->Bool}{v:Nat}{st:RSd}{b:Nat}{x:Block}(h:f.blocks[b]?=some x):Rq f inn v st b=Rp inn v x b st:=by unfold Rq;rw[h];rfl
def Jo(f:BFunc)(inn:Nat->Bool)(v:Nat)(st:RSd)(k:Nat):RSd:=((Fb f v).take k).foldl (Rq f inn v) st
noncomputable def G9(f:BFunc)(v:Nat)(st:RSd):RSd:=Jo f (UM (Cg f st.G) v) v st (Fb f v).length
theorem O6{f:BFunc}{inn:Nat->Bool}{v:Nat}{st:RSd}{k b:Nat}(h:(Fb f v)[k]?=some b):Jo f inn v st (k+1)=Rq f inn v (Jo f inn v st k) b:=by
 unfold Jo;rw[List.take_add_one,h,List.foldl_append];rfl
theorem bd{f:BFunc}{v b:Nat}(h:b∈Fb f v):b<f.blocks.length:=List.mem_range.1 (List.mem_filter.1 h).1
theorem PP(f:BFunc)(v:Nat):(Fb f v).Nodup:=List.Pairwise.filter _ List.nodup_range
theorem Ma{G:Nat->Bool}{t:Tac}{l2:List Tac}: ∀{l l1:List Tac} {j:Nat},D5 G l j=l1++t::l2->∃p,l[p]?=some t/\G (j+p)=false/\l2=D5 G (l.drop (p+1)) (j+p+1)
 | [],l1,j,h=>by simp[D5]at h
 | u::l,l1,j,h=>by
  rw[D5]at h
  cases hG:G j with
  | true=>
   rw[hG,cond_true]at h;obtain⟨p,h1,h2,h3⟩:=Ma h;exact⟨p+1,h1,by rw[show j+(p+1)=j+1+p by omega];exact h2,by rw[List.drop_succ_cons,show j+(p+1)+1=j+1+p+1 by omega];exact h3⟩
  | false=>
   rw[hG,cond_false]at h
   cases l1 with
   | nil=>
    simp only[List.nil_append,List.cons.injEq]at h;obtain⟨rfl,rfl⟩:=h;exact⟨0,rfl,hG,rfl⟩
   | cons a l1=>
    simp only[List.cons_append,List.cons.injEq]at h;obtain⟨p,h1,h2,h3⟩:=Ma h.2;exact⟨p+1,h1,by rw[show j+(p+1)=j+1+p by omega];exact h2,by rw[List.drop_succ_cons,show j+(p+1)+1=j+1+p+1 by omega];exact h3⟩
theorem RgI.done{f:BFunc}(hs:f.sane){R v:Nat}{inn:Nat->Bool}{m0:Nat}{st:RSd}{lo:Nat->Nat}(h:RgI f R v inn m0 st lo)(hlo: ∀b x,f.blocks[b]?=some x->lo b=0\/AY x v=[])(hv:st.w v=false):Lk (Cg f st.G) v:=by
 intro g c y l1 t l2 hc;obtain⟨x,hx,rfl⟩:=Mj hc.hx;have hxm:=List.mem_of_getElem? hx;have hi:D5 (st.G c) x.ins 0=l1++t::l2:=hc.hi;obtain⟨p,hp,hG,hl2⟩:=Ma hi;rw[Nat.zero_add]at hG hl2;obtain⟨k,s,hk,hat,hss,hdr⟩:=Zc (z:=C2 x v) (j:=0) hp hc.hv;rw[Nat.zero_add]at hat hdr;have hplt:=(List.getElem?_eq_some_iff.1 hp).1;have hlk:lo c<=k:=by
  rcases hlo c x hx with e | e
  . omega
  . have:(AY x v)[k]?=some s:=hk;rw[e]at this;simp at this
 have hleft:leftS (st.G c) x.ins.length s=true:=by
  unfold leftS;rw[hat,hG];simp
 have hpr:=h.proc c x k s t hx hlk hk hss hleft (by rw[hat];exact hp) hc.pure;have hpr':CW (st.G c) x.ins.length (Gb (C2 x v) v (x.ins.drop (p+1)) (p+1)) (G3 inn x)=true:=by rw[<-hdr];exact hpr
 rw[Hh (by rw[List.length_drop];omega),<-hl2]at hpr';have hd:=hc.dead;have:need v l2 (endB (Cg f st.G) (x.mid (D5 (st.G c) x.ins 0)) v)=true:=by
  refine Bp (fun e=>?_) hpr';show(C2 x v||outB (Cg f st.G) (x.mid (D5 (st.G c) x.ins 0)) v)=true;rcases Bool.or_eq_true_iff.1 e with e | e
  . rw[e];rfl
  . obtain⟨d,h1,h2⟩:=List.any_eq_true.1 e;have hd:=hs.next x hxm d h1;have:=h.ex hv d.toNat (by omega) h2;have ho:outB (Cg f st.G) (x.mid (D5 (st.G c) x.ins 0)) v=true:=outB_iff.2 ⟨d,h1,this⟩;rw[ho,Bool.or_true]
 rw[this]at hd;cases hd
theorem No{f:BFunc}(hs:f.sane){R:Nat}(hRf:f.regs=(R:Int)){G:GG}{u:Nat}(hu:R<=u):Lk (Cg f G) u:=by
 intro g c y l1 t l2 hc;obtain⟨x,hx,rfl⟩:=Mj hc.hx;obtain⟨p,hp,_,_⟩:=Ma (show D5 (G c) x.ins 0=l1++t::l2 from hc.hi);have hin:=hs.low x (List.mem_of_getElem? hx) t (List.mem_of_getElem? hp);have hsp:decide (t.sets>=0)=true:=by rw[hc.hv];simp
 have h1:=hin.1 (Ei hsp);rw[<-Iw (Ei hsp),hc.hv,hRf]at h1;omega
structure SI(f:BFunc)(R:Nat)(st:RSd):Prop where
  c:Cuts f (Cg f st.G)
  nd: ∀u,st.w u=false->Lk (Cg f st.G) u
  q:QId R st
def je(f:BFunc)(R:Nat)(st:RSd):Nat:=aM (Cg f st.G)*(R+1)+st.ws.length
def jf(R:Nat):RSd:=⟨fun _ _=>false,fun b=>decide (b<R),List.range R,(List.range R).map By⟩
theorem SI.first{f:BFunc}(hs:f.sane){R:Nat}(hRf:f.regs=(R:Int)):SI f R (jf R):=by
 refine⟨?_,fun u hu=>No hs hRf ?_,⟨HJ _ (Nat.le_refl _),stackI_range _⟩⟩
 . grind[Cuts,Cg,Yi,jf]
 . have: ¬u<R:=by simpa[jf]using hu
   omega
def Us(st:RSd)(v:Nat)(ws:List Nat):RSd:=⟨st.G,Cj st.w v false,ws,st.es⟩
theorem SI.pop{f:BFunc}{R v:Nat}{ws:List Nat}{st:RSd}(h:SI f R st)(hw:st.ws=ws++[v]):v<R/\RgI f R v (UM (Cg f st.G) v) (je f R (Us st v ws)) (Us st v ws) (fun b=>(GK f v b).length):=by
 have hwt:=h.q.wt;have hst:=h.q.st;rw[hw]at hwt hst;have hp:=hwt.pop;refine⟨hp.2.1,h.c,fun b hb=>inB_iff.2 hb,fun _ b _ hb=>inB_iff.1 hb,fun u huv hu=>h.nd u ?_,⟨hp.1,hst.pop⟩,Nat.le_refl _,?_⟩
 . show st.w u=false;have hu':Cj st.w v false u=false:=hu;rw[CC _ huv]at hu';exact hu'
 . intro b x k s t hx hlk hk;rw[Do hx]at hlk;have:=(List.getElem?_eq_some_iff.1 hk).1;omega
theorem RgI.blocks{f:BFunc}(hs:f.sane){R v:Nat}(hRf:f.regs=(R:Int)){inn:Nat->Bool}{m0:Nat}{st:RSd}(h:RgI f R v inn m0 st (fun b=>(GK f v b).length)):
 ∀k,k<=(Fb f v).length->∃lo,RgI f R v inn m0 (Jo f inn v st k) lo/\(∀b,b∈(Fb f v).take k->lo b=0)/\(∀b,b∉(Fb f v).take k->lo b=(GK f v b).length)
 | 0,_=>⟨_,h,fun b hb=>by simp at hb,fun _ _=>rfl⟩
 | k+1,hk=>by
  obtain⟨lo,h1,h2,h3⟩:=RgI.blocks hs hRf h k (by omega);obtain⟨b,hb⟩:=Ae (l:=Fb f v) (k:=k) (by omega);have hbl:=bd (List.mem_of_getElem? hb);obtain⟨x,hx⟩:=Ae hbl;have hnb:b∉(Fb f v).take k:=fun e=>by
   obtain⟨i,hi⟩:=List.mem_iff_getElem?.1 e;have hik:i<k:=by
    rcases Nat.lt_or_ge i k with h | h
    . exact h
    . rw[List.getElem?_eq_none (by rw[List.length_take];omega)]at hi;cases hi
   rw[List.getElem?_take_of_lt hik]at hi;have:=(List.getElem?_inj (by omega:i<(Fb f v).length) (PP f v)).1 (hi.trans hb.symm);omega
  have hlo:=h3 b hnb;rw[Do hx]at hlo;obtain⟨lo',l1,l2,l3,_⟩:=h1.sites hs hRf hx hlo (AY x v).length (Nat.le_refl _);rw[MH (Nat.le_refl _),<-P8 hx,<-O6 hb]at l1;have e:(Fb f v).take (k+1)=(Fb f v).take k++[b]:=by rw[List.take_add_one,hb];rfl
  refine⟨lo',l1,fun c hc=>?_,fun c hc=>?_⟩
  . by_cases hcb:c=b
    . subst hcb;omega
    . rw[l3 c hcb];rw[e]at hc;rcases List.mem_append.1 hc with hc | hc
      . exact h2 c hc
      . exact absurd (List.mem_singleton.1 hc) hcb
  . rw[e]at hc;have hcb:c≠b:=fun e=>hc (List.mem_append.2 (.inr (List.mem_singleton.2 e)))
    rw[l3 c hcb];exact h3 c fun e=>hc (List.mem_append.2 (.inl e))
theorem SI.reg{f:BFunc}(hs:f.sane){R v:Nat}(hRf:f.regs=(R:Int)){ws:List Nat}{st:RSd}(h:SI f R st)(hw:st.ws=ws++[v]):SI f R (G9 f v (Us st v ws))/\je f R (G9 f v (Us st v ws))<je f R st:=by
 obtain⟨hv,hg⟩:=h.pop hw;obtain⟨lo,h1,h2,h3⟩:=hg.blocks hs hRf (Fb f v).length (Nat.le_refl _);rw[List.take_length]at h2 h3;have h1':RgI f R v (UM (Cg f st.G) v) (je f R (Us st v ws)) (G9 f v (Us st v ws)) lo:=h1;refine⟨⟨h1'.c,fun u hu=>?_,h1'.q⟩,?_⟩
 . by_cases huv:u=v
   . subst huv;refine h1'.done hs (fun b x hx=>?_) hu
     by_cases hm:b∈Fb f u
     . exact .inl (h2 b hm)
     . right;have hbl:=(List.getElem?_eq_some_iff.1 hx).1;have:(GK f u b).isEmpty=true:=by
        cases e:(GK f u b).isEmpty with
        | true=>rfl
        | false=>exact absurd (List.mem_filter.2 ⟨List.mem_range.2 hbl,by rw[e];rfl⟩) hm
       rw[Do hx]at this;exact List.isEmpty_iff.1 this
   . exact h1'.oth u huv hu
 . refine Nat.lt_of_le_of_lt h1'.ms ?_;unfold je Us;rw[hw,List.length_append]
   simp
theorem SI.done{f:BFunc}(hs:f.sane){R:Nat}(hRf:f.regs=(R:Int)){st:RSd}(h:SI f R st)(hw:st.ws=[]):Cg f st.G=U2 f:=by
 refine iS h.c fun g hg=>?_
 obtain⟨c,x,l1,t,l2,v,hc⟩:=hg
 by_cases hv:v<R
 . refine h.nd v ?_ g c x l1 t l2 hc
   cases e:st.w v with
   | false=>rfl
   | true=>exact absurd ((h.q.wt.mem v).2 ⟨hv,e⟩) (by rw[hw];simp)
 . exact No hs hRf (by omega) g c x l1 t l2 hc
def F4(r0 r1 r2 r3:Nat->AObj):Nat->AObj:=fun x=>if x%4=0 then r0 (x/4)else if x%4=1 then r1 (x/4)else if x%4=2 then r2 (x/4)else r3 (x/4)
theorem nX(r0 r1 r2 r3:Nat->AObj)(b:Nat):F4 r0 r1 r2 r3 (4*b+0)=r0 b:=by
 grind[F4]
theorem nW(r0 r1 r2 r3:Nat->AObj)(b:Nat):F4 r0 r1 r2 r3 (4*b+1)=r1 b:=by
 grind[F4]
theorem jb(r0 r1 r2 r3:Nat->AObj)(b:Nat):F4 r0 r1 r2 r3 (4*b+2)=r2 b:=by
 grind[F4]
theorem ja(r0 r1 r2 r3:Nat->AObj)(b:Nat):F4 r0 r1 r2 r3 (4*b+3)=r3 b:=by
 grind[F4]
theorem nV(r0 r1 r2 r3:Nat->AObj)(b:Nat)(o:AObj)(x:Nat):F4 (Jg r0 b o) r1 r2 r3 x=if x=4*b+0 then o else F4 r0 r1 r2 r3 x:=by
 grind[F4,Jg]
theorem fP(r0 r1 r2 r3:Nat->AObj)(b:Nat)(o:AObj)(x:Nat):F4 r0 (Jg r1 b o) r2 r3 x=if x=4*b+1 then o else F4 r0 r1 r2 r3 x:=by
 grind[F4,Jg]
theorem fO(r0 r1 r2 r3:Nat->AObj)(b:Nat)(o:AObj)(x:Nat):F4 r0 r1 (Jg r2 b o) r3 x=if x=4*b+2 then o else F4 r0 r1 r2 r3 x:=by
 grind[F4,Jg]
theorem fN(r0 r1 r2 r3:Nat->AObj)(b:Nat)(o:AObj)(x:Nat):F4 r0 r1 r2 (Jg r3 b o) x=if x=4*b+3 then o else F4 r0 r1 r2 r3 x:=by
 grind[F4,Jg]
theorem Kv{k:Nat->Bool}{r0 r1 r2 r3:Nat->AObj}(h0: ∀b,(r0 b).avoid k=true)(h1: ∀b,(r1 b).avoid k=true)(h2: ∀b,(r2 b).avoid k=true)(h3: ∀b,(r3 b).avoid k=true)(x:Nat):(F4 r0 r1 r2 r3 x).avoid k=true:=by
 grind[F4]
def Df(b:Nat):Nat:=if b<16 then b else 16+(b-16)%4
theorem bL(i:Nat):Df (4*i+0+16)=16:=by unfold Df;rw[if_neg (by omega)];omega
theorem bK(i:Nat):Df (4*i+1+16)=17:=by unfold Df;rw[if_neg (by omega)];omega
theorem bJ(i:Nat):Df (4*i+2+16)=18:=by unfold Df;rw[if_neg (by omega)];omega
theorem bI(i:Nat):Df (4*i+3+16)=19:=by unfold Df;rw[if_neg (by omega)];omega
def kD:Nat->Bool:=fun c=>(Nat.ble 2 c&&Nat.blt c 8)||Nat.ble 16 c
def Ey(h g:Ab):Ab:=fun c=>bif kD c then g c else h c
theorem Cs(x:Nat):kD (x+16)=true:=by
 unfold kD;rw[show Nat.ble 16 (x+16)=true by rw[Nat.ble_eq];omega];simp
theorem S6{c:Nat}(h:kD c=false):c=0\/c=1\/(8<=c/\c<16):=by
 unfold kD at h;simp only[Bool.or_eq_false_iff,Bool.and_eq_false_iff]at h;obtain⟨h1,h2⟩:=h;have h3: ¬16<=c:=fun e=>by rw[<-Nat.ble_eq]at e;rw[e]at h2;cases h2
 rcases h1 with h1 | h1
 . have: ¬2<=c:=fun e=>by rw[<-Nat.ble_eq]at e;rw[e]at h1;cases h1
   omega
 . have: ¬c<8:=fun e=>by
    have:Nat.blt c 8=true:=by unfold Nat.blt;rw[Nat.ble_eq];omega
    rw[this]at h1;cases h1
   omega
theorem QZ{c:Nat}(h:kD c=true):(2<=c/\c<8)\/16<=c:=by
 unfold kD at h
 (simp_all;done)
theorem El(h g:Ab)(x:Nat):Ey h g (x+16)=g (x+16):=by unfold Ey;rw[Cs];rfl
theorem BI{h g:Ab}{c:Nat}(hc:kD c=true):Ey h g c=g c:=by unfold Ey;rw[hc];rfl
theorem VR{h g:Ab}{c:Nat}(hc:kD c=false):Ey h g c=h c:=by unfold Ey;rw[hc];rfl
abbrev DH(L:List AObj)(F:Nat->AObj):Ab:=GV (nb (.free:: .free::L)) F
theorem cv{L:List AObj}(F:Nat->AObj)(hL:L.length=6){i:Nat}(hi:i<6):DH L F (2+i)=some (TV L i):=by
 show GV (nb _) F (2+i)=_;rw[Ia _ _ (by omega)];unfold nb;congr 1;rw[Nat.add_comm 2 i];rfl
theorem dS{L:List AObj}{p:AObj->Prop}(h: ∀o∈L,p o)(hf:p .free): ∀i,p (TV L i):=by
 induction L with
 | nil=>intro i;exact hf
 | cons o L ih=>
  intro i
  cases i with
  | zero=>exact h o (List.mem_cons.2 (.inl rfl))
  | succ i=>exact ih (fun q hq=>h q (List.mem_cons.2 (.inr hq))) i
theorem Oq{L:List AObj}{F:Nat->AObj}(hL:L.length=6)(hA: ∀o∈L,o.avoid kD=true)(hF: ∀x,(F x).avoid kD=true){c:Nat}(hc:kD c=true): ∃q,DH L F c=some q/\q.avoid kD=true:=by
 rcases QZ hc with h | h
 . obtain⟨i,rfl⟩: ∃i,c=2+i:=⟨c-2,by omega⟩
   exact⟨_,cv F hL (by omega),dS hA rfl i⟩
 . obtain⟨x,rfl⟩: ∃x,c=x+16:=⟨c-16,by omega⟩
   exact⟨_,Ao _ _ _,hF x⟩
theorem Wv{h:Ab}{L:List AObj}{F:Nat->AObj}(hL:L.length=6)(h1:LowS h 2 L)(h2: ∀x,h (x+16)=some (F x)){c:Nat}(hc:kD c=true):h c=DH L F c:=by
 rcases QZ hc with hh | hh
 . obtain⟨i,rfl⟩: ∃i,c=2+i:=⟨c-2,by omega⟩
   rw[cv F hL (by omega)];exact h1.get (by omega)
 . obtain⟨x,rfl⟩: ∃x,c=x+16:=⟨c-16,by omega⟩
   rw[h2];exact(Ao _ _ _).symm
theorem aW{h:Ab}{L:List AObj}{F:Nat->AObj}(hL:L.length=6)(h1:LowS h 2 L)(h2: ∀x,h (x+16)=some (F x)):D3 h kD=DH L F:=funext fun c=>by
 unfold D3
 cases e:kD c with
 | true=>exact Wv hL h1 h2 e
 | false=>
  rcases S6 e with rfl | rfl | hc
  . rfl
  . rfl
  . show some AObj.free=GV (nb (.free:: .free::L)) F c;rw[Ia _ _ (by omega)];show some AObj.free=some (TV (.free:: .free::L) c);rw[nth_out (by show L.length+1+1<=c;omega)]
theorem D2{P:Program}{o:Oper}{e:As}{h:Ab}{g:FuncId}{fn:Func}{args:Array Operand}{tys:Array TypeId}{xs:List AV}{r:AV}(L L':List AObj){F:Nat->AObj}(F':Nat->AObj)
 (ho:o.op= .call {callee:=.value (.func g),args:=args,argTypes:=tys}) (hf:P.funcs[g]?=some fn) (hn:(fn.name== "runtime.NumGoroutine")=false) (hb:fn.body.isSome=true) (hx:AR e args.toList=some xs)
 (hxa:xs.all (AV.avoid kD)=true) (hL:L.length=6) (hL':L'.length=6) (hA: ∀o∈L,o.avoid kD=true) (hA': ∀o∈L',o.avoid kD=true) (h1:LowS h 2 L) (h2: ∀x,h (x+16)=some (F x)) (hF: ∀x,(F x).avoid kD=true) (hF': ∀x,(F' x).avoid kD=true) (hra:r.avoid kD=true)
 (hcall:ACall P g xs (DH L F) (fun r' h'=>r'=r/\HSub (Ey hNone (DH L' F')) h')):LR P o e h (Ey h (DH L' F')) r:=
 J3 (hw:=Ey hNone (DH L' F')) kD ho hf hn hb hx hxa (fun b hb=>by rw[Wv hL h1 h2 hb];exact Oq hL hA hF hb) (aW hL h1 h2) (fun b hb=>VR hb)
  (fun b hb=>by obtain⟨q,q1,q2⟩:=Oq (L:=L') (F:=F') hL' hA' hF' hb;exact⟨q,(BI hb).trans q1,(BI hb).trans q1,q2⟩) hra hcall
theorem Lf{h:Ab}{L:List AObj}{F:Nat->AObj}(hL:L.length=6)(h1:LowS h 2 L)(h2: ∀x,h (x+16)=some (F x)):HSub (Ey hNone (DH L F)) h:=fun c o ho=>by
 cases e:kD c with
 | true=>rw[BI e]at ho;rw[Wv hL h1 h2 e];exact ho
 | false=>rw[VR e]at ho;cases ho
def FX(f:BFunc)(i:Nat):Nat:=((f.blocks[i]?).map fun x=>x.ins.length).getD 0
theorem Cl{f:BFunc}{i:Nat}{x:Block}(h:f.blocks[i]?=some x):FX f i=x.ins.length:=by unfold FX;rw[h];rfl
abbrev CK:=Nat->Nat->List Site
def Gx(s:Site):List AV:=[.int .i64 (s.at_:Int),.bool s.r,.bool s.s]
def aR(A:Nat->List Nat)(c:Nat):AV:=D1 (4*c+0+16) ((A c).map By)
def gR(f:BFunc)(i:Nat):AV:=.ref (4*i+1+16) (FX f i) 0 (FX f i)
def Me(S:CK)(n v:Nat):List Nat:=(List.range n).filter fun i=> !(S i v).isEmpty
def Tf(R:Nat)(S:CK)(v i:Nat):List AV:=[.int .i64 (i:Int),.ref (4*(v+R*i)+3+16) (S i v).length 0 (S i v).length]
def Ja(n R:Nat)(S:CK)(v:Nat):List (List AV):=(Me S n v).map (Tf R S v)
def oR(n R:Nat)(S:CK)(v:Nat):AV:=D1 (4*v+2+16) (Ja n R S v)
def QK(n:Nat)(A:Nat->List Nat):Nat->AObj:=Cy n fun c=>Hw 1 ((A c).map By)
def Oy(f:BFunc)(n:Nat)(G:GG):Nat->AObj:=Cy n fun i=>.row true 1 (bC (FX f i) (G i))
def M4(n R:Nat)(S:CK):Nat->AObj:=Cy R fun v=>Ox 2 (Ja n R S v)
def LW(R:Nat)(S:CK):Nat->AObj:=fun m=>Hw 3 ((S (m/R) (m%R)).map Gx)
theorem Wb{R v i:Nat}(h:v<R):(v+R*i)/R=i:=by
 rw[Nat.add_mul_div_left _ _ (by omega),Nat.div_eq_of_lt h,Nat.zero_add]
theorem Wa{R v i:Nat}(h:v<R):(v+R*i)%R=v:=by
 rw[Nat.add_mul_mod_self_left,Nat.mod_eq_of_lt h]
theorem ZA{R v i:Nat}{S:CK}(h:v<R):LW R S (v+R*i)=Hw 3 ((S i v).map Gx):=by
 unfold LW;rw[Wb h,Wa h]
abbrev RF(f:BFunc)(R m len:Nat):List AV:=[.int .i64 f.regs,BZ f.blocks,AU f.nexts,.ref 3 f.blocks.length 0 f.blocks.length,.ref 4 R 0 R,.ref 5 f.blocks.length 0 f.blocks.length,.ref 6 m 0 len,.ref 7 R 0 R]
abbrev HG(f:BFunc)(R:Nat)(S:CK)(es:List (List AV))(len:Nat)(w:Nat->Bool):List AObj:=
  [.row false 8 [RF f R es.length len],.row false 1 (Aw (aR (Au f)) f.blocks.length),.row false 1 (Aw (oR f.blocks.length R S) R),.row false 1 (Aw (gR f) f.blocks.length),.row true 1 es,.row true 1 (bC R w)]
abbrev DF(f:BFunc)(R:Nat)(S:CK)(G:GG):Nat->AObj:=F4 (QK f.blocks.length (Au f)) (Oy f f.blocks.length G) (M4 f.blocks.length R S) (LW R S)
theorem A9{k:Nat->Bool}(hk: ∀x,k (x+16)=true)(A:Nat->List Nat)(c:Nat):(aR A c).avoid k=true:=B8 _ (hk _)
theorem A0{k:Nat->Bool}(hk: ∀x,k (x+16)=true)(n R:Nat)(S:CK)(v:Nat):(oR n R S v).avoid k=true:=B8 _ (hk _)
theorem BP{k:Nat->Bool}(hk: ∀x,k (x+16)=true)(f:BFunc)(i:Nat):(gR f i).avoid k=true:=by
 grind[gR,AV.avoid,AV.flat]
theorem IC{k:Nat->Bool}{n:Nat}{A:Nat->List Nat}(b:Nat):(QK n A b).avoid k=true:=Ej (fun _=>CS _ _) b
theorem IB{k:Nat->Bool}{f:BFunc}{n:Nat}{G:GG}(b:Nat):(Oy f n G b).avoid k=true:=Ej (fun _=>rfl) b
theorem XO{k:Nat->Bool}(hk: ∀x,k (x+16)=true){n R:Nat}{S:CK}{v:Nat}{p:Bool}:(AObj.row p 2 (Ja n R S v)).avoid k=true:=by
 cases p with
 | true=>rfl
 | false=>
  show(Ja n R S v).all (fun cs=>cs.all (AV.avoid k))=true;refine List.all_eq_true.2 fun cs hc=>?_
  obtain⟨i,_,rfl⟩:=List.mem_map.1 hc;show(List.all [_,_] (AV.avoid k))=true;simp only[List.all_cons,List.all_nil,Bool.and_true,Bool.and_eq_true];exact⟨rfl,by simp[AV.avoid,AV.flat,hk]⟩
theorem IA{k:Nat->Bool}(hk: ∀x,k (x+16)=true){n R:Nat}{S:CK}(b:Nat):(M4 n R S b).avoid k=true:=Ej (fun v=>by
 unfold Ox
 cases (Ja n R S v).isEmpty with
 | true=>rfl
 | false=>exact XO hk) b
theorem Iz{k:Nat->Bool}{R:Nat}{S:CK}(m:Nat):(LW R S m).avoid k=true:=CS _ _
theorem A7{k:Nat->Bool}(hk: ∀x,k (x+16)=true)(f:BFunc)(R:Nat)(S:CK)(G:GG)(x:Nat):(DF f R S G x).avoid k=true:=Kv (fun _=>IC _) (fun _=>IB _) (fun _=>IA hk _) (fun _=>Iz _) x
theorem B5(f:BFunc)(R:Nat)(S:CK)(es:List (List AV))(len:Nat)(w:Nat->Bool): ∀o∈HG f R S es len w,o.avoid kD=true:=fun o ho=>by
 simp only[HG,List.mem_cons,List.not_mem_nil,or_false]at ho;rcases ho with rfl | rfl | rfl | rfl | rfl | rfl
 . rfl
 . exact Ad (fun b _=>A9 Cs _ _)
 . exact Ad (fun b _=>A0 Cs _ _ _ _)
 . exact Ad (fun b _=>BP Cs _ _)
 . rfl
 . rfl
theorem Aq(k0:Nat): ∀x,kf k0 (x+16)=true:=fun x=>SZ k0 x
theorem Uo{f:BFunc}{n i:Nat}{G:GG}{r0 r2 r3:Nat->AObj}{x:Block}(hi:i<n)(hx:f.blocks[i]?=some x):F4 r0 (Oy f n G) r2 r3 (4*i+1)= .row true 1 (bC x.ins.length (G i)):=by
 rw[nW];unfold Oy;rw[Ea hi,Cl hx]
theorem dA{f:BFunc}{n i p:Nat}{G:GG}{r0 r2 r3:Nat->AObj}{x:Block}(hi:i<n)(hx:f.blocks[i]?=some x)(y:Nat):
 F4 r0 (Oy f n (Dv G i p)) r2 r3 y=if y=4*i+1 then .row true 1 ((bC x.ins.length (G i)).set (0+((p:Nat):Int).toNat) [AV.bool true])else F4 r0 (Oy f n G) r2 r3 y:=by
 have e:Oy f n (Dv G i p)=Jg (Oy f n G) i (.row true 1 ((bC x.ins.length (G i)).set (0+((p:Nat):Int).toNat) [AV.bool true])):=by
  refine(FM (k:=n) (o:=fun c=>.row true 1 (bC (FX f c) (G c))) (o':=fun c=>.row true 1 (bC (FX f c) (Dv G i p c))) (b:=i) hi fun c hc=>?_).trans ?_
  . congr 2;refine funext fun q=>?_
    rw[Ft (fun e=>hc e.1)]
  . unfold Oy;congr 1;show AObj.row true 1 (bC (FX f i) (Dv G i p i))=_;rw[Hr,Cl hx];congr 2;refine funext fun q=>?_
    congr 1
    by_cases hq:q=p
    . subst hq;rw[ID,CR]
    . rw[Ft (fun e=>hq e.2),CC _ hq]
 rw[e,fP]
theorem DT(n R:Nat)(S:CK)(v:Nat):(Ja n R S v).length=(Me S n v).length:=by simp[Ja]
theorem Q9(S:CK)(n v:Nat):(Me S n v).length<=n:=by
 unfold Me
 grind
theorem Lx{us:List Int}{k:Nat}{u:Int}{st:RSd}(h:us[k]?=some u):(us.take (k+1)).foldl (fun st u=>FQ st u.toNat) st=FQ ((us.take k).foldl (fun st u=>FQ st u.toNat) st) u.toNat:=by
 rw[List.take_add_one,h,List.foldl_append];rfl
theorem jc{f:BFunc}{R i p:Nat}{S:CK}{G:GG}{x:Block}(hi:i<f.blocks.length)(hx:f.blocks[i]?=some x)(y:Nat):
 DF f R S (Dv G i p) y=if y=4*i+1 then .row true 1 ((bC x.ins.length (G i)).set (0+((p:Nat):Int).toNat) [AV.bool true])else DF f R S G y:=dA hi hx y
theorem Mo{f:BFunc}{R v i:Nat}{S:CK}{G:GG}(hv:v<R)(h:0<(S i v).length):DF f R S G (4*(v+R*i)+3)= .row true 3 ((S i v).map Gx):=by
 refine(ja _ _ _ _ _).trans ?_;rw[ZA hv]
 cases e:S i v with
 | nil=>rw[e]at h;simp at h
 | cons s l=>rfl
theorem Ry{f:BFunc}{R v:Nat}{S:CK}{G:GG}(hv:v<R):DF f R S G (4*v+2)=Ox 2 (Ja f.blocks.length R S v):=(jb _ _ _ _ _).trans (Ea hv)
theorem fU{f:BFunc}{R b:Nat}{S:CK}{G:GG}(hb:b<f.blocks.length):DF f R S G (4*b+0)=Hw 1 ((Au f b).map By):=(nX _ _ _ _ _).trans (Ea hb)
theorem Ra{S:CK}{n v k i:Nat}(h:(Me S n v)[k]?=some i):i<n/\0<(S i v).length:=by
 have:=List.mem_filter.1 (List.mem_of_getElem? h)
 grind
theorem Qu{sz k:Nat}{es:List (List AV)}(h:k<es.length):Ox sz es= .row false sz es:=by
 grind[Ox]
theorem M7{P:Program}{T:Nat->Option Ar}{o:Oper}{e:As}{h:Ab}(hT:Cn P T){t:TypeId}{x y:Operand}{b sz:Nat}{es:List (List AV)}{k:IntKind}{n:Int}{i j:Ar}{u:Nat}(ho:o.op= .indexAddr t x y)(hx:Ak e x=some (D1 b es))(hy:Ak e y=some (.int k n))
 (hi:T t=some i) (hk:i.k= .slice u) (hj:T u=some j) (hb:h b=some (Ox sz es)) (hsz:sz=j.size) (h0:0<=n) (hn:n<es.length):QLoc P o e h [b] (.ptr b es.length n.toNat 0):=by
 have hlt:n.toNat<es.length:=by omega
 rw[MG hlt]at hx;rw[Qu hlt]at hb;have:=Ac hT ho hx hy hi hk hj hb rfl hsz h0 hn;rwa[Nat.zero_add]at this
theorem left_yes{n:Nat}{s:Site}{g:Bool}(h:s.at_=n):true=(s.at_==n||g):=by simp[h]
theorem d8{n:Nat}{s:Site}{g:Bool}(h: ¬s.at_=n):g=(s.at_==n||g):=by
 grind
abbrev SB(f:BFunc):CK:=fun i v=>GK f v i
abbrev iC(n:Nat)(w:Nat->Nat):List (List AV):=Aw (fun b=>.int .i64 (w b:Int)) n
def KB(w:Nat->Nat)(b z:Nat):Nat->Nat:=fun c=>if c=b then z else w c
theorem aU{n b:Nat}{w:Nat->Nat}(z:Nat):(iC n w).set (0+((b:Nat):Int).toNat) [AV.int .i64 (z:Int)]=iC n (KB w b z):=by
 rw[Nat.zero_add,Int.toNat_natCast];show(Aw _ n).set b _=_;rw[GY];refine CM fun c _=>?_
 unfold KB;split<;>rfl
theorem Wd{n b:Nat}{w:Nat->Nat}:(iC n w).set (0+((b:Nat):Int).toNat) [AV.int .i64 2]=iC n (KB w b 2):=aU 2
theorem eB{n b:Nat}{w:Nat->Nat}:(iC n w).set (0+((b:Nat):Int).toNat) [AV.int .i64 1]=iC n (KB w b 1):=aU 1
theorem YX(w:Nat->Nat)(b y z:Nat):KB (KB w b y) b z=KB w b z:=funext fun c=>by
 grind[KB]
theorem bY(n:Nat)(w:Nat->Bool):bC n w=(Gz n w).map A1:=by
 unfold Gz;show(List.range n).map _=_;rw[List.map_map];rfl
def Hl(f:BFunc)(G:GG)(v k:Nat):Nat->Nat:=fun b=>if b∈(Fb f v).take k then firstG f G v b else 0
def RD(f:BFunc)(G:GG)(v k:Nat):Nat->Bool:=fun b=>Hl f G v k b==1
def todoK(f:BFunc)(G:GG)(v k:Nat):List Nat:=((Fb f v).take k).filter fun b=>firstG f G v b==1
theorem GA{l:List Nat}{k i:Nat}(h:l[k]?=some i)(b:Nat):b∈l.take (k+1)↔b∈l.take k\/b=i:=by
 rw[List.take_add_one,h]
 simp
theorem GT{f:BFunc}{G:GG}{v k i:Nat}(h:(Fb f v)[k]?=some i):Hl f G v (k+1)=KB (Hl f G v k) i (firstG f G v i):=funext fun b=>by
 unfold Hl KB
 by_cases hb:b=i
 . subst hb;rw[if_pos ((GA h b).2 (.inr rfl)),if_pos rfl]
 . rw[if_neg hb];dsimp only
   by_cases h2:b∈(Fb f v).take k
   . rw[if_pos h2,if_pos ((GA h b).2 (.inl h2))]
   . rw[if_neg h2,if_neg (fun e=>((GA h b).1 e).elim h2 hb)]
theorem PS{f:BFunc}{G:GG}{v:Nat}:Hl f G v 0=fun _=>0:=funext fun b=>by unfold Hl;simp
theorem iH{f:BFunc}{v k i:Nat}(h:(Fb f v)[k]?=some i):i∉(Fb f v).take k:=fun e=>by
 obtain⟨j,hj⟩:=List.mem_iff_getElem?.1 e;have hjk:j<k:=by
  grind
 rw[List.getElem?_take_of_lt hjk]at hj;have hkl:=(List.getElem?_eq_some_iff.1 h).1;have:=(List.getElem?_inj (by omega:j<(Fb f v).length) (PP f v)).1 (hj.trans h.symm);omega
theorem Th{f:BFunc}{G:GG}{v k i:Nat}(h:(Fb f v)[k]?=some i):Hl f G v k i=0:=by
 unfold Hl;rw[if_neg (iH h)]
theorem iN{f:BFunc}{G:GG}{v k i:Nat}(h:(Fb f v)[k]?=some i)(h0:firstG f G v i=0):Hl f G v k=Hl f G v (k+1):=by
 rw[GT h,h0];refine funext fun b=>?_
 unfold KB;split
 . subst_vars;exact Th h
 . rfl
theorem aN{f:BFunc}{G:GG}{v k i:Nat}(h:(Fb f v)[k]?=some i)(h1:firstG f G v i=1):Cj (RD f G v k) i true=RD f G v (k+1):=funext fun b=>by
 unfold RD Cj;rw[GT h,h1];unfold KB;split<;>rfl
theorem aO{f:BFunc}{G:GG}{v k i:Nat}(h:(Fb f v)[k]?=some i)(h1:firstG f G v i≠1):RD f G v k=RD f G v (k+1):=funext fun b=>by
 unfold RD;rw[GT h];unfold KB;split
 . rename_i hb;rw[hb,Th h];have:(firstG f G v i==1)=false:=by rw[beq_eq_false_iff_ne];exact h1
   rw[this];rfl
 . rfl
theorem Mz{f:BFunc}{G:GG}{v k i:Nat}(h:(Fb f v)[k]?=some i)(h1:firstG f G v i=1):todoK f G v k++[i]=todoK f G v (k+1):=by
 unfold todoK;rw[List.take_add_one,h,List.filter_append];simp[h1]
theorem MA{f:BFunc}{G:GG}{v k i:Nat}(h:(Fb f v)[k]?=some i)(h1:firstG f G v i≠1):todoK f G v k=todoK f G v (k+1):=by
 unfold todoK;rw[List.take_add_one,h,List.filter_append];simp[h1]
theorem WX(f:BFunc)(G:GG)(v k:Nat):(todoK f G v k).length<=k:=by
 unfold todoK
 grind
theorem Ti{f:BFunc}{G:GG}{v k:Nat}(h:(Fb f v).length<=k):Hl f G v k=firstG f G v:=funext fun b=>by
 unfold Hl;rw[List.take_of_length_le h];split
 . rfl
 . rename_i hn
   cases e:f.blocks[b]? with
   | none=>unfold firstG;rw[e];rfl
   | some x=>
    rw[FC e];have hbl:=(List.getElem?_eq_some_iff.1 e).1;have:(GK f v b).isEmpty=true:=by
     cases e2:(GK f v b).isEmpty with
     | true=>rfl
     | false=>exact absurd (List.mem_filter.2 ⟨List.mem_range.2 hbl,by rw[e2];rfl⟩) hn
    rw[Do e]at this;rw[List.isEmpty_iff.1 this];rfl
theorem Oa(p:Nat->Bool): ∀n,((List.range n).filter p).length+Lg n p=n
 | 0=>rfl
 | n+1=>by
  have ih:=Oa p n;unfold Lg at ih |-;rw[List.range_succ,List.filter_append,List.length_append,List.map_append,List.sum_append]
  cases e:p n<;>simp[e]<;>omega
theorem BfI.first{f:BFunc}{G:GG}{v k:Nat}(h:(Fb f v).length<=k):BfI f G v (RD f G v k) (todoK f G v k) 0 []:=by
 have hf:=Ti (G:=G) h;have hin: ∀b,RD f G v k b=true->b∈todoK f G v k:=fun b hb=>by
  unfold RD at hb;unfold todoK;rw[List.take_of_length_le h];unfold Hl at hb;rw[List.take_of_length_le h]at hb;split at hb
  . rename_i hm;exact List.mem_filter.2 ⟨hm,hb⟩
  . cases hb
 refine⟨fun b hb=>?_,fun b hb h1=>?_,fun c hc hn=>absurd (hin c hc) hn,fun c hc=>?_,?_⟩
 . have hm:=hin b hb;unfold todoK at hm;obtain⟨h1,h2⟩:=List.mem_filter.1 hm;have hbl:=bd (List.mem_of_mem_take h1);obtain⟨x,hx⟩:=Ae hbl;refine⟨hbl,.here (E9 hx) ?_⟩;have h3:CZ (G b) x.ins.length (AY x v)=1:=by rw[<-FC hx];simpa using h2
   have:=K6 (G:=G) (v:=v) hx false;rw[Tp h3,Bool.or_false]at this;exact this
 . unfold RD;rw[hf,h1];rfl
 . unfold todoK at hc;obtain⟨h1,h2⟩:=List.mem_filter.1 hc;unfold RD;rw[hf];exact h2
 . have e:=Oa (RD f G v k) f.blocks.length;have hle:(todoK f G v k).length<=((List.range f.blocks.length).filter (RD f G v k)).length:=by
    unfold todoK;rw[List.take_of_length_le h];unfold Fb;rw[List.filter_filter];have: ∀(l:List Nat) (p q:Nat->Bool),(∀x,p x=true->q x=true)->(l.filter p).length<=(l.filter q).length:=fun l p q hpq=>by
     induction l with
     | nil=>simp
     | cons a l ih=>
      rw[List.filter_cons,List.filter_cons]
      cases ep:p a with
      | true=>rw[hpq a ep];simp;exact ih
      | false=>cases q a<;>simp<;>omega
    refine this _ _ _ fun x hx=>?_
    unfold RD;rw[hf];simp only[Bool.and_eq_true]at hx;exact hx.1
   omega
theorem StackI.push{n:Nat}{es:List (List AV)}{ws:List Nat}(h:StackI n es ws){b:Nat}(hlt:ws.length<n):StackI n (CN es ws.length (By b)) (ws++[b]):=by
 refine⟨?_,?_,Pd h.le h.max hlt⟩
 . rw[List.length_append];simp only[List.length_cons,List.length_nil];rw[Jp h.le,h.top,List.map_append];rfl
 . rw[List.length_append];simp only[List.length_cons,List.length_nil];exact KS h.le
theorem StackI.none(n:Nat):StackI n [] []:=⟨rfl,Nat.le_refl _,Nat.zero_le _⟩
structure MQ where
  inn:Nat->Bool
  todo:List Nat
  es:List (List AV)
structure MP where
  inn:Nat->Bool
  todo:List Nat
  es:List (List AV)
  j:Nat
theorem first_skip{G:Nat->Bool}{n j:Nat}{l:List Site}{s:Site}(hs:l[j]?=some s)(h:leftS G n s=false):CZ G n (l.drop j)=CZ G n (l.drop (j+1)):=by
 rw[List.drop_eq_getElem_cons (List.getElem?_eq_some_iff.1 hs).1,(List.getElem?_eq_some_iff.1 hs).2,CZ,h,cond_false]
theorem NR{G:Nat->Bool}{n j:Nat}{l:List Site}{s:Site}(hs:l[j]?=some s)(h:leftS G n s=true):CZ G n (l.drop j)=bif s.r then 1 else 2:=by
 rw[List.drop_eq_getElem_cons (List.getElem?_eq_some_iff.1 hs).1,(List.getElem?_eq_some_iff.1 hs).2,CZ,h,cond_true]
theorem ik{f:BFunc}{G:GG}{v k i n:Nat}(h:(Fb f v)[k]?=some i)(h1:firstG f G v i=1):((iC n (Hl f G v k)).set (0+((i:Nat):Int).toNat) [AV.int .i64 2]).set (0+((i:Nat):Int).toNat) [AV.int .i64 1]=iC n (Hl f G v (k+1)):=by
 rw[Wd,eB,YX,GT h,h1]
theorem ij{f:BFunc}{G:GG}{v k i n:Nat}(h:(Fb f v)[k]?=some i)(h1:firstG f G v i=2):(iC n (Hl f G v k)).set (0+((i:Nat):Int).toNat) [AV.int .i64 2]=iC n (Hl f G v (k+1)):=by
 rw[Wd,GT h,h1]
theorem BfI.room{f:BFunc}{G:GG}{v:Nat}{inn:Nat->Bool}{todo:List Nat}{b:Nat}{rest:List Nat}(h:BfI f G v inn todo b rest){a:Nat}(ha:a<f.blocks.length)(hi:inn a=false):todo.length<f.blocks.length:=by
 have:=h.cnt;have e:=Kl hi ha;omega
theorem N1{l:List Nat}{j a:Nat}(h:l[j]?=some a):l.drop j=a::l.drop (j+1):=by
 rw[List.drop_eq_getElem_cons (List.getElem?_eq_some_iff.1 h).1,(List.getElem?_eq_some_iff.1 h).2]
theorem L2{f:BFunc}{v i:Nat}{x:Block}(hx:f.blocks[i]?=some x):(GK f v i).length<=x.ins.length+1:=by
 rw[Do hx];exact VC _ _ _ _
theorem Eo{R v i:Nat}{S:CK}(k0:Nat):(AObj.row false 2 [Tf R S v i]).avoid (kf k0)=true:=by
 show(List.all [_,_] (AV.avoid (kf k0))&&true)=true;simp only[List.all_cons,List.all_nil,Bool.and_true,Bool.and_eq_true];exact⟨rfl,by simp[AV.avoid,AV.flat,SZ]⟩
theorem Vz{f:BFunc}{v i j:Nat}{x:Block}(hx:f.blocks[i]?=some x){s:Site}(h:(GK f v i)[j]?=some s):s.at_<=x.ins.length:=by
 rw[Do hx]at h;have:=(Uh s (List.mem_of_getElem? h)).2;omega
structure MPI(f:BFunc)(G:GG)(v b m0:Nat)(p:MP):Prop where
  k:BfI f G v p.inn p.todo b ((Au f b).drop p.j)
  b:p.inn b=true
  st:StackI f.blocks.length p.es p.todo
  mu:2*Lg f.blocks.length p.inn+p.todo.length<=m0
theorem MPI.skip{f:BFunc}{G:GG}{v b m0:Nat}{p:MP}(h:MPI f G v b m0 p){a:Nat}(ha:(Au f b)[p.j]?=some a)(hs: ¬(firstG f G v a=0/\p.inn a=false)):MPI f G v b m0 ⟨p.inn,p.todo,p.es,p.j+1⟩:=by
 have hk:=h.k;rw[N1 ha]at hk;exact⟨hk.skip hs,h.b,h.st,h.mu⟩
theorem MPI.push{f:BFunc}{G:GG}{v b m0:Nat}{p:MP}(h:MPI f G v b m0 p){a:Nat}(ha:(Au f b)[p.j]?=some a)(h0:firstG f G v a=0)(hi:p.inn a=false):MPI f G v b m0 ⟨Cj p.inn a true,p.todo++[a],CN p.es p.todo.length (By a),p.j+1⟩:=by
 have hk:=h.k;have hal:=IY (List.mem_of_getElem? ha);have hr:=hk.room hal hi;rw[N1 ha]at hk;have hne:b≠a:=fun e=>by have:=h.b;rw[e,hi]at this;cases this
 refine⟨hk.push h.b (List.mem_of_getElem? ha) h0 hi,?_,h.st.push hr,?_⟩
 . show Cj p.inn a true b=true;rw[CC _ hne];exact h.b
 . have:=h.mu;have e:=Kl hi hal;show 2*Lg f.blocks.length (Cj p.inn a true)+(p.todo++[a]).length<=m0;rw[List.length_append]
   simp
   omega
theorem Uf{x:Block}{b:Nat}{st:RSd×Bool}{s:Site}(h:leftS (st.1.G b) x.ins.length s=false):I5 x b st s=st:=by
 grind[I5,leftS]
theorem R6{x:Block}{b:Nat}{st:RSd×Bool}{s:Site}{t:Tac}(h:leftS (st.1.G b) x.ins.length s=true)(ht:x.ins[s.at_]?=some t)(hs:s.s=true)(hb:st.2=false)(hp:t.pure=true):I5 x b st s=(BM b s.at_ t.uses st.1,st.2):=by
 grind[I5,leftS,BM]
theorem MI{x:Block}{b:Nat}{st:RSd×Bool}{s:Site}(h:leftS (st.1.G b) x.ins.length s=true)(hk:s.s=true->∀t,x.ins[s.at_]?=some t->(!st.2&&t.pure)=false):I5 x b st s=(st.1,s.r||(!s.s&&st.2)):=by
 grind[I5,leftS]
def TF(inn:Nat->Bool)(x:Block)(j:Nat):Bool:=(x.nexts.take j).any fun d=>inn d.toNat
theorem anyK_succ{inn:Nat->Bool}{x:Block}{j:Nat}{d:Int}(h:x.nexts[j]?=some d):TF inn x (j+1)=(TF inn x j||inn d.toNat):=by
 unfold TF;rw[List.take_add_one,h,List.any_append];simp
theorem cb{inn:Nat->Bool}{x:Block}{j:Nat}(h:x.nexts.length<=j):TF inn x j=G3 inn x:=by
 unfold TF G3;rw[List.take_of_length_le h]
theorem Xe{f:BFunc}{inn:Nat->Bool}{v:Nat}{st:RSd}{k i m:Nat}{x:Block}(h:(Fb f v)[k]?=some i)(hx:f.blocks[i]?=some x)(hm:(GK f v i).length<=m):(Cx inn v x i (Jo f inn v st k) m).1=Jo f inn v st (k+1):=by
 rw[Do hx]at hm;rw[O6 h,P8 hx,MH hm]
theorem Za{f:BFunc}{v i j:Nat}{x:Block}(hx:f.blocks[i]?=some x){s:Site}(h:(GK f v i)[j]?=some s)(hs:s.s=true): ∃t,x.ins[s.at_]?=some t:=by
 rw[Do hx]at h;rcases siF_get h with⟨_,_,e,_,_⟩ |⟨p,t,h1,h2,_⟩
 . grind
 grind
theorem Xb{L:Nat}(hL:L<=1000000000):AX .sub (.int .i64 (L:Int)) (.int .i64 1)=some (.int .i64 (((L-0:Nat):Int)-1)):=by
 grind[AX,BL,isShift,CB]
theorem fv{L m kk:Nat}(h:m+kk+1=L)(hL:L<=1000000000):AX .sub (.int .i64 (kk:Int)) (.int .i64 1)=some (.int .i64 (((L-(m+1):Nat):Int)-1)):=by
 grind[AX,BL,isShift,CB]
theorem QId.leaveR{R b p:Nat}{us:List Int}{st:RSd}(h:QId R st)(hu: ∀u∈us,0<=u/\u<R):QId R (BM b p us st):=QId.leave (b:=b) (p:=p) (st:=⟨Dv st.G b p,st.w,st.ws,st.es⟩) ⟨h.wt,h.st⟩ hu
theorem Xd{f:BFunc}{v:Nat}{st:RSd}(h:(Fb f v).length=0):G9 f v st=st:=by
 unfold G9;rw[h];rfl
def Ca(S:CK)(i v:Nat)(l:List Site):CK:=fun i' v'=>if i'=i/\v'=v then l else S i' v'
theorem GL(S:CK)(i v:Nat)(l:List Site):Ca S i v l i v=l:=by unfold Ca;rw[if_pos ⟨rfl,rfl⟩]
theorem G6{S:CK}{i v i' v':Nat}(l:List Site)(h: ¬(i'=i/\v'=v)):Ca S i v l i' v'=S i' v':=by unfold Ca;rw[if_neg h]
theorem KG(S:CK)(i v:Nat):Ca S i v (S i v)=S:=funext fun a=>funext fun b=>by
 unfold Ca;split
 . grind
 . rfl
def B6(S:CK)(i v:Nat):List Nat:=(List.range i).filter fun j=> !(S j v).isEmpty
theorem K7{S:CK}{n i v:Nat}(hi:i<n)(h: ∀j,i<j->S j v=[]):Me S n v=B6 S i v++(if(S i v).isEmpty then []else [i]):=by
 unfold Me B6;have key: ∀m,(List.range (i+1+m)).filter (fun j=> !(S j v).isEmpty)=(List.range (i+1)).filter (fun j=> !(S j v).isEmpty):=fun m=>by
  induction m with
  | zero=>rfl
  | succ m ih=>
   rw[show i+1+(m+1)=(i+1+m)+1 by omega,List.range_succ,List.filter_append,ih,List.filter_cons,h (i+1+m) (by omega)]
   simp
 have:=key (n-(i+1));rw[show i+1+(n-(i+1))=n by omega]at this;rw[this,List.range_succ,List.filter_append,List.filter_cons]
 cases (S i v).isEmpty<;>rfl
theorem ZV{S:CK}{i v j:Nat}(h:j∈B6 S i v):j<i:=List.mem_range.1 (List.mem_filter.1 h).1
theorem Pk{S:CK}{i v:Nat}(l:List Site)(u:Nat):B6 (Ca S i v l) i u=B6 S i u:=by
 unfold B6;refine List.filter_congr fun j hj=>?_
 rw[G6 l (fun e=>by have:=List.mem_range.1 hj;omega)]
def IT(R:Nat)(v i:Nat)(l:List Site):List AV:=[.int .i64 (i:Int),D1 (4*(v+R*i)+3+16) (l.map Gx)]
def Cd(R:Nat)(S:CK)(v i:Nat):List (List AV):=(B6 S i v).map (Tf R S v)
theorem iI{R v i:Nat}{S:CK}(h:0<(S i v).length):IT R v i (S i v)=Tf R S v i:=by
 unfold IT Tf;have:=MG (b:=4*(v+R*i)+3+16) (es:=(S i v).map Gx) (k:=0) (by rw[List.length_map];exact h)
 grind
theorem Xq{R:Nat}{S:CK}{v i:Nat}(l:List Site):Cd R (Ca S i v l) v i=Cd R S v i:=by
 unfold Cd;rw[Pk];refine List.map_congr_left fun j hj=>?_
 unfold Tf;rw[G6 l (fun e=>by have:=ZV hj;omega)]
theorem Mf{n R:Nat}{S:CK}{v i:Nat}(hi:i<n)(h: ∀j,i<j->S j v=[])(hl:0<(S i v).length):Ja n R S v=Cd R S v i++[IT R v i (S i v)]:=by
 unfold Ja Cd;have e:(S i v).isEmpty=false:=by
  grind
 rw[K7 hi h,e,List.map_append,iI hl];rfl
theorem We{n R:Nat}{S:CK}{v i:Nat}(hi:i<n)(h: ∀j,i<j->S j v=[])(hl:S i v=[]):Ja n R S v=Cd R S v i:=by
 unfold Ja Cd;rw[K7 hi h,hl];simp
def oX(n R:Nat)(S:CK)(v i:Nat):Nat->AV:=fun u=>if u=v then .ref (4*v+2+16) ((B6 S i v).length+1) 0 ((B6 S i v).length+1)else oR n R S u
def O9(n R:Nat)(S:CK)(v i:Nat)(l:List Site):Nat->AObj:=Jg (M4 n R S) v (.row false 2 (Cd R S v i++[IT R v i l]))
def Xi(R:Nat)(S:CK)(v i:Nat)(l:List Site):Nat->AObj:=Jg (LW R S) (v+R*i) (Hw 3 (l.map Gx))
theorem fB{n R:Nat}{S:CK}{v i u:Nat}(l:List Site)(h:u≠v):Ja n R (Ca S i v l) u=Ja n R S u:=by
 unfold Ja Me;have e:((List.range n).filter fun j=> !(Ca S i v l j u).isEmpty)=(List.range n).filter fun j=> !(S j u).isEmpty:=List.filter_congr fun j _=>by rw[G6 l (fun e=>h e.2)]
 rw[e];refine List.map_congr_left fun j _=>?_
 unfold Tf;rw[G6 l (fun e=>h e.2)]
theorem fA{n R:Nat}{S:CK}{v i:Nat}{l:List Site}(hi:i<n)(h: ∀j,i<j->S j v=[])(hl:0<l.length):Aw (oX n R S v i) R=Aw (oR n R (Ca S i v l)) R:=CM fun u _=>by
 unfold oX oR
 by_cases hu:u=v
 . subst hu;rw[if_pos rfl,Mf hi (fun j hj=>by rw[G6 l (fun e=>by omega)];exact h j hj) (by rw[GL];exact hl),GJ];unfold Cd;rw[List.length_map,Pk]
 . rw[if_neg hu,fB l hu]
theorem ZD{n R:Nat}{S:CK}{v i:Nat}{l:List Site}(hv:v<R)(hi:i<n)(h: ∀j,i<j->S j v=[])(hl:0<l.length):O9 n R S v i l=M4 n R (Ca S i v l):=by
 unfold O9;have:=FM (k:=R) (o:=fun u=>Ox 2 (Ja n R S u)) (o':=fun u=>Ox 2 (Ja n R (Ca S i v l) u)) hv (fun c hc=>by rw[fB l hc]);refine Eq.trans ?_ this.symm;unfold M4;congr 1;rw[Mf hi (fun j hj=>by rw[G6 l (fun e=>by omega)];exact h j hj) (by rw[GL];exact hl),GL,Xq];simp[Ox,L1]
theorem QJ{R:Nat}{S:CK}{v i:Nat}{l:List Site}(hv:v<R):Xi R S v i l=LW R (Ca S i v l):=funext fun m=>by
 unfold Xi Jg LW
 by_cases hm:m=v+R*i
 . subst hm;rw[if_pos rfl,Wb hv,Wa hv,GL]
 . rw[if_neg hm,G6 l (fun e=>hm ?_)];have:=Nat.mod_add_div m R;rw[e.1,e.2]at this;exact this.symm
theorem Zy{R:Nat}{S:CK}{v i:Nat}(hv:v<R):Xi R S v i (S i v)=LW R S:=by rw[QJ hv,KG]
theorem ZC{n R:Nat}{S:CK}{v i:Nat}(hv:v<R)(hi:i<n)(h: ∀j,i<j->S j v=[])(hl:0<(S i v).length):O9 n R S v i (S i v)=M4 n R S:=by rw[ZD hv hi h hl,KG]
theorem dO{n R:Nat}{S:CK}{v i:Nat}(hi:i<n)(h: ∀j,i<j->S j v=[])(hl:0<(S i v).length):Aw (oX n R S v i) R=Aw (oR n R S) R:=by rw[fA hi h hl,KG]
def A2(l:List Site)(p:Nat):List Site:=if(l.getLast?.map Site.at_)=some p then l else l++[⟨p,false,false⟩]
theorem Ck(l:List Site)(p:Nat):0<(A2 l p).length:=by
 grind[A2]
theorem IJ{l:List Site}{p k:Nat}{s:Site}(hk:l[k]?=some s)(hl:k+1=l.length)(h:s.at_≠p):A2 l p=l++[⟨p,false,false⟩]:=by
 grind[A2]
theorem Pp{l:List Site}{p k:Nat}{s:Site}(hk:l[k]?=some s)(hl:k+1=l.length)(h:s.at_=p):A2 l p=l:=by
 grind[A2]
theorem Po{n R:Nat}{S:CK}{v i:Nat}(hi:i<n)(h: ∀j,i<j->S j v=[])(hl:(Ja n R S v).length=0):S i v=[]:=by
 cases e:S i v with
 | nil=>rfl
 | cons a l=>
  rw[Mf hi h (by rw[e];simp)]at hl;simp at hl
theorem note_new2{n:Nat}{S:CK}{v i k j0:Nat}(hi:i<n)(h: ∀j,i<j->S j v=[])(hk:(Me S n v)[k]?=some j0)(hl:k+1=(Me S n v).length)(hne:j0≠i):S i v=[]:=by
 cases e:S i v with
 | nil=>rfl
 | cons a l=>
  have hs:Me S n v=B6 S i v++[i]:=by rw[K7 hi h,e];rfl
  rw[hs]at hk hl;have:k=(B6 S i v).length:=by simp at hl;omega
  subst this;rw[List.getElem?_append_right (Nat.le_refl _)]at hk;simp at hk;exact absurd hk.symm hne
theorem au{n:Nat}{S:CK}{v i k:Nat}(hi:i<n)(h: ∀j,i<j->S j v=[])(hk:(Me S n v)[k]?=some i):0<(S i v).length:=(Ra hk).2
theorem ap{n R:Nat}{S:CK}{v i:Nat}(hi:i<n)(h: ∀j,i<j->S j v=[])(hl:0<(S i v).length):oR n R S v= .ref (4*v+2+16) ((B6 S i v).length+1) 0 ((B6 S i v).length+1):=by
 unfold oR;rw[Mf hi h hl,GJ];unfold Cd;rw[List.length_map]
theorem WL{es:List (List AV)}{x y:List AV}(h:WkAll x y): ∀(i:Nat) (ds ds':List AV),(es++[x])[i]?=some ds->(es++[y])[i]?=some ds'->ds'.length=ds.length/\∀(j:Nat) (a b:AV),ds[j]?=some a->ds'[j]?=some b->(a.cell1=true->b.cell1=true)/\∀H ι v,Rel H ι a v->Rel H ι b v:=fun i ds ds' h1 h2=>by
 grind[List.getElem?_append_left,Wk.refl,List.getElem?_append_right,Ms,WkAll]
theorem iD{n R:Nat}{S:CK}{v i:Nat}{es:List (List AV)}{x:List AV}(hp:es.length=(B6 S i v).length):(Aw (oR n R S) R).set (0+((v:Nat):Int).toNat) [D1 (4*v+2+16) (es++[x])]=Aw (oX n R S v i) R:=by
 rw[Nat.zero_add,Int.toNat_natCast,GY];refine CM fun u _=>?_
 unfold oX
 by_cases hu:u=v
 . subst hu;rw[if_pos rfl,if_pos rfl,GJ,hp]
 . rw[if_neg hu,if_neg hu]
theorem Ec(R:Nat)(S:CK)(v i:Nat):(Cd R S v i).length=(B6 S i v).length:=by simp[Cd]
theorem Xp(S:CK)(i v:Nat):(B6 S i v).length<=i:=by
 unfold B6
 grind
theorem Xx(l:List Site)(p:Nat):(A2 l p).length<=l.length+1:=by
 grind[A2]
theorem Fe{n R v i:Nat}{S:CK}{l:List Site}{r0 r1 r3:Nat->AObj}:F4 r0 r1 (O9 n R S v i l) r3 (4*v+2)= .row false 2 (Cd R S v i++[IT R v i l]):=by
 rw[jb];unfold O9 Jg;rw[if_pos rfl]
theorem io{R v i:Nat}{S:CK}{l:List Site}{r0 r1 r2:Nat->AObj}:F4 r0 r1 r2 (Xi R S v i l) (4*(v+R*i)+3)=Hw 3 (l.map Gx):=by
 rw[ja];unfold Xi Jg;rw[if_pos rfl]
theorem ZU{R v i:Nat}{S:CK}{l:List Site}:(Cd R S v i++[IT R v i l])[(B6 S i v).length]?=some (IT R v i l):=by
 rw[<-Ec R S v i,List.getElem?_append_right (Nat.le_refl _)];simp
theorem ip{n R v i:Nat}{S:CK}{l:List Site}{r0 r1 r3:Nat->AObj}(x:Nat):F4 r0 r1 (O9 n R S v i l) r3 x=if x=4*v+2 then .row false 2 (Cd R S v i++[IT R v i l])else F4 r0 r1 (M4 n R S) r3 x:=fO _ _ _ _ _ _ _
theorem Xj{n R v i:Nat}{S:CK}{l l':List Site}:O9 n R S v i l'=Jg (O9 n R S v i l) v (.row false 2 (Cd R S v i++[IT R v i l'])):=funext fun c=>by
 unfold O9 Jg;split<;>rfl
theorem ZT{R v i:Nat}{S:CK}{l:List Site}{y:List AV}:(Cd R S v i++[IT R v i l]).set (B6 S i v).length y=Cd R S v i++[y]:=by
 rw[<-Ec R S v i,List.set_append_right _ _ (Nat.le_refl _)];simp
theorem L3{l:List Site}(h:0<l.length):Hw 3 (l.map Gx)= .row true 3 (l.map Gx):=Qv (k:=0) (by rw[List.length_map];exact h)
theorem Um{n R v:Nat}{S:CK}{r0 r1 r3:Nat->AObj}(hv:v<R):F4 r0 r1 (M4 n R S) r3 (4*v+2)=Ox 2 (Ja n R S v):=(jb _ _ _ _ _).trans (Ea hv)
theorem O8{R v i:Nat}{S:CK}{r0 r1 r2:Nat->AObj}(hv:v<R):F4 r0 r1 r2 (LW R S) (4*(v+R*i)+3)=Hw 3 ((S i v).map Gx):=(ja _ _ _ _ _).trans (ZA hv)
theorem O1{L:Nat}(h:0<L)(hL:L<=1000000000):AX .sub (.int .i64 (L:Int)) (.int .i64 1)=some (.int .i64 ((L-1:Nat):Int)):=by
 grind[AX,BL,isShift,CB]
theorem Re{L:Nat}(h:(((L:Nat):Int)==0)=false):0<L:=by
 grind
theorem D4{L:Nat}(h:(((L:Nat):Int)==0)=true):L=0:=by
 grind
theorem L6{α:Type}{l:List α}(h:l.length=0):l=[]:=List.length_eq_zero_iff.1 h
theorem gX(l:List Site): ∀cs∈l.map Gx,cs.length=3:=fun cs hc=>by
 grind[Gx]
theorem Mi{h:Ab}{L:List AObj}{F:Nat->AObj}(hL:L.length=6)(h0:h 0=some .free)(h1:h 1=some .free)(hl:LowS h 2 L)(hh: ∀x,h (x+16)=some (F x))(hf: ∀c,8<=c->c<16->h c=some .free):HSub (DH L F) h:=fun c o ho=>by
 cases e:kD c with
 | true=>rw[Wv hL hl hh e];exact ho
 | false=>
  rcases S6 e with rfl | rfl | hc
  . have:some AObj.free=some o:=ho;rw[h0];exact this
  . have:some AObj.free=some o:=ho;rw[h1];exact this
  . have e2:DH L F c=some .free:=by
     show GV (nb (.free:: .free::L)) F c=_;rw[Ia _ _ (by omega)];show some (TV (.free:: .free::L) c)=_;rw[nth_out (by show L.length+1+1<=c;omega)]
    rw[e2]at ho;rw[hf c hc.1 hc.2];exact ho
theorem UN(h:Ab)(z:Nat)(o1 o2:AObj):hput (hput h z o1) z o2=hput h z o2:=funext fun c=>by
 by_cases hc:c=z
 . subst hc;rw[Ap,Ap]
 . rw[AF _ _ hc,AF _ _ hc,AF _ _ hc]
theorem dv{n R v i:Nat}{S:CK}{r0 r1 r3:Nat->AObj}(hS0:S i v=[])(x:Nat):F4 r0 r1 (O9 n R S v i (S i v)) r3 x=if x=4*v+2 then .row false 2 (Cd R S v i++[[.int .i64 (i:Int),D1 (4*(v+R*i)+3+16) []]])else F4 r0 r1 (M4 n R S) r3 x:=by
 rw[ip,hS0];rfl
theorem ZB{n R v i:Nat}{S:CK}{l l':List Site}{r0 r1 r3:Nat->AObj}{y:List AV}(hy:y=IT R v i l')(x:Nat):F4 r0 r1 (O9 n R S v i l') r3 x=if x=4*v+2 then .row false 2 ((Cd R S v i++[IT R v i l]).set (0+(((B6 S i v).length:Nat):Int).toNat) y)else F4 r0 r1 (O9 n R S v i l) r3 x:=by
 rw[Xj (l:=l),fO,Nat.zero_add,Int.toNat_natCast,ZT,hy]
theorem Zx{R v i:Nat}{S:CK}{l:List Site}{s:Site}{r0 r1 r2:Nat->AObj}(x:Nat):F4 r0 r1 r2 (Xi R S v i (l++[s])) x=if x=4*(v+R*i)+3 then Hw 3 (l.map Gx++[Gx s])else F4 r0 r1 r2 (LW R S) x:=by
 unfold Xi;rw[fN,List.map_append];rfl
theorem bf{R v i:Nat}{l:List Site}{s:Site}:[AV.int .i64 (i:Int),D1 (4*(v+R*i)+3+16) (l.map Gx++[Gx s])]=IT R v i (l++[s]):=by
 unfold IT;rw[List.map_append];rfl
theorem R8(z:Bool)(v:Nat)(t:Tac): ∀(l:List Tac) (j:Nat),Gb false v (l++[t]) j=Gb false v l j++(bif t.uses.contains (v:Int)||t.sets==(v:Int)then [⟨j+l.length,t.uses.contains (v:Int),t.sets==(v:Int)⟩]else [])
 | [],j=>by
  rw[List.nil_append,Eh]
  cases t.uses.contains (v:Int)||t.sets==(v:Int)<;>simp[Gb]
 | u::l,j=>by
  rw[List.cons_append,Eh,Eh,R8 z v t l (j+1)];have:j+1+l.length=j+(u::l).length:=by rw[List.length_cons];omega
  rw[this]
  cases u.uses.contains (v:Int)||u.sets==(v:Int)<;>simp
theorem VD(z:Bool)(v:Nat): ∀(l:List Tac) (j:Nat),Gb z v l j=Gb false v l j++(bif z then [⟨j+l.length,true,false⟩]else [])
 | [],j=>by cases z<;>simp[Gb]
 | u::l,j=>by
  rw[Eh,Eh,VD z v l (j+1)];have:j+1+l.length=j+(u::l).length:=by rw[List.length_cons];omega
  rw[this]
  cases u.uses.contains (v:Int)||u.sets==(v:Int)<;>simp
def OE(x:Block)(v j:Nat):List Site:=Gb false v (x.ins.take j) 0
theorem R7(x:Block)(v:Nat):OE x v 0=[]:=by simp[OE,Gb]
theorem MJ{x:Block}{v j:Nat}{t:Tac}(h:x.ins[j]?=some t):OE x v (j+1)=OE x v j++(bif t.uses.contains (v:Int)||t.sets==(v:Int)then [⟨j,t.uses.contains (v:Int),t.sets==(v:Int)⟩]else []):=by
 unfold OE;have hj:=(List.getElem?_eq_some_iff.1 h).1;have e:x.ins.take (j+1)=x.ins.take j++[t]:=by rw[List.take_add_one,h];rfl
 rw[e,R8 false,List.length_take,Nat.min_eq_left (by omega),Nat.zero_add]
theorem VB(x:Block)(v:Nat):AY x v=OE x v x.ins.length++(bif C2 x v then [⟨x.ins.length,true,false⟩]else []):=by
 unfold AY OE;rw[VD,List.take_length,Nat.zero_add]
theorem Zb{x:Block}{v j:Nat}: ∀s∈OE x v j,s.at_<j:=fun s hs=>by
 unfold OE at hs;obtain⟨k,hk⟩:=List.mem_iff_getElem?.1 hs;rcases siF_get hk with⟨_,_,_,e,_⟩ |⟨p,t,h1,h2,_⟩
 . cases e
 . have:=(List.getElem?_eq_some_iff.1 h2).1;rw[List.length_take]at this;omega
theorem noteL_fresh{l:List Site}{p:Nat}(h: ∀s∈l,s.at_<p):A2 l p=l++[⟨p,false,false⟩]:=by
 unfold A2
 cases e:l.getLast? with
 | none=>simp
 | some s=>
  have:=h s (List.mem_of_getLast? e);rw[if_neg (by simp;omega)]
theorem noteL_there{l:List Site}{p:Nat}{r s:Bool}:A2 (l++[⟨p,r,s⟩]) p=l++[⟨p,r,s⟩]:=by
 unfold A2;rw[List.getLast?_concat];simp
def CV(f:BFunc)(i:Nat)(cur:Nat->List Site):CK:=fun i' v=>if i'<i then GK f v i' else if i'=i then cur v else []
theorem Nc(f:BFunc)(i:Nat)(cur:Nat->List Site)(v:Nat): ∀j,i<j->CV f i cur j v=[]:=fun j hj=>by
 unfold CV;rw[if_neg (by omega),if_neg (by omega)]
theorem QP(f:BFunc)(i:Nat)(cur:Nat->List Site)(v:Nat):CV f i cur i v=cur v:=by
 unfold CV;rw[if_neg (Nat.lt_irrefl i),if_pos rfl]
theorem QO(f:BFunc)(i:Nat)(cur:Nat->List Site)(v:Nat)(l:List Site):Ca (CV f i cur) i v l=CV f i (fun u=>if u=v then l else cur u):=funext fun a=>funext fun u=>by
 unfold Ca CV
 by_cases ha:a=i
 . subst ha;rw[if_neg (Nat.lt_irrefl a),if_pos rfl,if_neg (Nat.lt_irrefl a),if_pos rfl]
   by_cases hu:u=v
   . rw[if_pos ⟨rfl,hu⟩];exact(if_pos hu).symm
   . rw[if_neg (fun e=>hu e.2)];exact(if_neg hu).symm
 . rw[if_neg (fun e=>ha e.1)]
   by_cases h2:a<i
   . rw[if_pos h2,if_pos h2]
   . rw[if_neg h2,if_neg h2,if_neg ha,if_neg ha]
theorem SA{f:BFunc}{i:Nat}{x:Block}(hx:f.blocks[i]?=some x){cur:Nat->List Site}(h: ∀v,cur v=AY x v):CV f i cur=CV f (i+1) (fun _=>[]):=funext fun a=>funext fun u=>by
 unfold CV
 by_cases ha:a=i
 . subst ha;rw[if_neg (Nat.lt_irrefl a),if_pos rfl,if_pos (Nat.lt_succ_self a),h,Do hx]
 . by_cases h2:a<i
   . rw[if_pos h2,if_pos (by omega)]
   . rw[if_neg h2,if_neg ha,if_neg (by omega)];split<;>rfl
theorem dG{f:BFunc}:CV f f.blocks.length (fun _=>[])=SB f:=funext fun a=>funext fun u=>by
 unfold CV
 by_cases h:a<f.blocks.length
 . rw[if_pos h]
 . rw[if_neg h];have:f.blocks[a]?=none:=List.getElem?_eq_none_iff.2 (by omega);have e:GK f u a=[]:=by unfold GK;rw[this];rfl
   show _=GK f u a;rw[e];split<;>rfl
theorem IE{f:BFunc}{i:Nat}{cur cur':Nat->List Site}(h: ∀v,cur v=cur' v):CV f i cur=CV f i cur':=by rw[funext h]
def Bl(x:Block)(j:Nat)(us:List Int)(v:Nat):List Site:=OE x v j++(bif us.contains (v:Int)then [⟨j,true,false⟩]else [])
theorem GX(x:Block)(j v:Nat):Bl x j [] v=OE x v j:=by simp[Bl]
def flagR(l:List Site):List Site:=l.dropLast++(l.getLast?.map fun s=>(⟨s.at_,true,s.s⟩:Site)).toList
def flagS(l:List Site):List Site:=l.dropLast++(l.getLast?.map fun s=>(⟨s.at_,s.r,true⟩:Site)).toList
theorem Hm(l:List Site)(s:Site):flagR (l++[s])=l++[⟨s.at_,true,s.s⟩]:=by
 unfold flagR;rw[List.dropLast_concat,List.getLast?_concat];rfl
theorem JA(l:List Site)(s:Site):flagS (l++[s])=l++[⟨s.at_,s.r,true⟩]:=by
 unfold flagS;rw[List.dropLast_concat,List.getLast?_concat];rfl
theorem fC{x:Block}{j v:Nat}{us:List Int}: ∃r,A2 (Bl x j us v) j=OE x v j++[⟨j,r,false⟩]/\r=us.contains (v:Int):=by
 unfold Bl
 cases e:us.contains (v:Int)with
 | true=>exact⟨true,noteL_there,rfl⟩
 | false=>
  refine⟨false,?_,rfl⟩;rw[cond_false,List.append_nil];exact noteL_fresh Zb
theorem use_noted{x:Block}{j:Nat}{us:List Int}{k:Nat}{u:Int}(h:us[k]?=some u)(h0:0<=u)(v:Nat):(if v=u.toNat then flagR (A2 (Bl x j (us.take k) u.toNat) j)else Bl x j (us.take k) v)=Bl x j (us.take (k+1)) v:=by
 have e:us.take (k+1)=us.take k++[u]:=by rw[List.take_add_one,h];rfl
 by_cases hv:v=u.toNat
 . rw[if_pos hv];obtain⟨r,h1,_⟩:=fC (x:=x) (j:=j) (v:=u.toNat) (us:=us.take k);rw[h1,Hm];unfold Bl;have:(us.take (k+1)).contains (v:Int)=true:=by
    rw[List.contains_iff_mem,e,List.mem_append,List.mem_singleton];right;omega
   rw[this,hv];rfl
 . rw[if_neg hv];unfold Bl;have:(us.take (k+1)).contains (v:Int)=(us.take k).contains (v:Int):=by
    rw[Bool.eq_iff_iff,List.contains_iff_mem,List.contains_iff_mem,e,List.mem_append,List.mem_singleton];exact⟨fun h=>h.elim id fun e=>absurd (show v=u.toNat by omega) hv,.inl⟩
   rw[this]
theorem W6{x:Block}{j:Nat}{t:Tac}(ht:x.ins[j]?=some t)(h0:0<=t.sets)(v:Nat):(if v=t.sets.toNat then flagS (A2 (Bl x j t.uses t.sets.toNat) j)else Bl x j t.uses v)=OE x v (j+1):=by
 rw[MJ ht]
 by_cases hv:v=t.sets.toNat
 . rw[if_pos hv];obtain⟨r,h1,h2⟩:=fC (x:=x) (j:=j) (v:=t.sets.toNat) (us:=t.uses);rw[h1,JA];have e:(t.sets==(v:Int))=true:=by rw[beq_iff_eq];omega
   rw[e,Bool.or_true,cond_true,h2,hv]
 . rw[if_neg hv];have e:(t.sets==(v:Int))=false:=by rw[beq_eq_false_iff_ne];omega
   rw[e,Bool.or_false];unfold Bl
   cases t.uses.contains (v:Int)<;>rfl
theorem SJ{x:Block}{j:Nat}{t:Tac}(ht:x.ins[j]?=some t)(h0: ¬0<=t.sets)(v:Nat):Bl x j t.uses v=OE x v (j+1):=by
 rw[MJ ht];have e:(t.sets==(v:Int))=false:=by rw[beq_eq_false_iff_ne];omega
 rw[e,Bool.or_false];unfold Bl
 cases t.uses.contains (v:Int)<;>rfl
theorem X5{x:Block}(h:x.fin=2)(h0:0<=x.v)(v:Nat):(if v=x.v.toNat then flagR (A2 (OE x x.v.toNat x.ins.length) x.ins.length)else OE x v x.ins.length)=AY x v:=by
 rw[VB]
 by_cases hv:v=x.v.toNat
 . rw[if_pos hv,noteL_fresh Zb,Hm];have:C2 x v=true:=by unfold C2;rw[h];simp;omega
   rw[this,hv];rfl
 . rw[if_neg hv];have:C2 x v=false:=by
    unfold C2;have:(x.v==(v:Int))=false:=by rw[beq_eq_false_iff_ne];omega
    rw[this,Bool.and_false]
   rw[this,cond_false,List.append_nil]
theorem SK{x:Block}(h: ¬x.fin=2)(v:Nat):OE x v x.ins.length=AY x v:=by
 rw[VB];have:C2 x v=false:=by unfold C2;simp[h]
 rw[this,cond_false,List.append_nil]
theorem i5{n d k:Nat}{A A':Nat->List Nat}(h: ∀c,A' c=if c=d then A c++[k]else A c):(Aw (aR A) n).set (0+d) [D1 (4*d+0+16) ((A d).map By++[By k])]=Aw (aR A') n:=by
 grind[GY,CM,aR,Aw,D1,By]
theorem dC{n d k:Nat}{A A':Nat->List Nat}{r1 r2 r3:Nat->AObj}(hd:d<n)(h: ∀c,A' c=if c=d then A c++[k]else A c)(x:Nat):F4 (QK n A') r1 r2 r3 x=if x=4*d+0 then Hw 1 ((A d).map By++[By k])else F4 (QK n A) r1 r2 r3 x:=by
 have e:QK n A'=Jg (QK n A) d (Hw 1 ((A' d).map By)):=FM hd fun c hc=>by rw[h,if_neg hc]
 grind[nV,F4,QK,Hw,By]
theorem Pb{n:Nat}{A A':Nat->List Nat}(h: ∀c,A c=A' c):QK n A=QK n A':=by rw[funext h]
theorem nx{n:Nat}{A:Nat->List Nat}{r1 r2 r3:Nat->AObj}{b:Nat}(h:b<n):F4 (QK n A) r1 r2 r3 (4*b+0)=Hw 1 ((A b).map By):=(nX _ _ _ _ _).trans (Ea h)
abbrev G0:GG:=fun _ _=>false
def S0:CK:=fun _ _=>[]
def gK(f:BFunc)(k:Nat):Nat->AV:=fun b=>if b<k then gR f b else .nil
theorem eG(f:BFunc)(n:Nat):List.replicate n [AV.nil]=Aw (gK f 0) n:=by
 grind[GZ,CM,gK,Aw]
theorem iK(f:BFunc):Aw (gK f f.blocks.length) f.blocks.length=Aw (gR f) f.blocks.length:=CM fun b hb=>by
 grind[gK,Aw,gR]
theorem iJ{f:BFunc}{n k:Nat}{m:Nat}(hm:FX f k=m):(Aw (gK f k) n).set (0+((k:Nat):Int).toNat) [.ref (4*k+1+16) m 0 m]=Aw (gK f (k+1)) n:=by
 rw[Nat.zero_add,Int.toNat_natCast,GY]
 grind[CM,gK,gR,FX,Aw]
theorem DG{p:Nat->Bool}(hp: ∀x,p (x+16)=true)(f:BFunc)(k b:Nat):(gK f k b).avoid p=true:=by
 unfold gK;split
 . exact BP hp f b
 . rfl
theorem dB{f:BFunc}{k:Nat}{G:GG}{r0 r2 r3:Nat->AObj}:F4 r0 (Oy f k G) r2 r3 (4*k+1)= .free:=(nW _ _ _ _ _).trans (Jk (Nat.le_refl _))
theorem ZL{f:BFunc}{k m:Nat}{r0 r2 r3:Nat->AObj}(hm:FX f k=m)(x:Nat):F4 r0 (Oy f (k+1) G0) r2 r3 x=if x=4*k+1 then .row true 1 (List.replicate m [AV.bool false])else F4 r0 (Oy f k G0) r2 r3 x:=by
 unfold Oy;rw[HR,fP,hm];have:bC m (G0 k)=List.replicate m [AV.bool false]:=by
  show Aw (fun _=>AV.bool false) m=_;exact(GZ _ _).symm
 rw[this]
theorem bX(R:Nat):List.replicate R [AV.bool false]=bC R (fun b=>decide (b<0)):=by
 show _=Aw (fun b=>AV.bool (decide (b<0))) R;rw[GZ]
 grind
theorem aZ(n v:Nat):Me S0 n v=[]:=by
 unfold Me;exact List.filter_eq_nil_iff.2 fun a _=>by simp[S0]
theorem Td(n R v:Nat):Ja n R S0 v=[]:=by unfold Ja;rw[aZ];rfl
theorem dP(n R v:Nat):oR n R S0 v=D1 (4*v+2+16) []:=by unfold oR;rw[Td]
theorem F4_start{f:BFunc}{n R x:Nat}:F4 (QK n (fun _=>[])) (Oy f 0 G0) (M4 n R S0) (LW R S0) x= .free:=by
 have e0: ∀b,QK n (fun _=>[]) b= .free:=fun b=>by unfold QK Cy;split<;>rfl
 have e1: ∀b,Oy f 0 G0 b= .free:=fun b=>by unfold Oy Cy;rw[if_neg (Nat.not_lt_zero b)]
 have e2: ∀b,M4 n R S0 b= .free:=fun b=>by unfold M4 Cy;dsimp only;rw[Td];split<;>rfl
 have e3: ∀b,LW R S0 b= .free:=fun b=>rfl
 unfold F4;split
 . exact e0 _
 . split
   . exact e1 _
   . split
     . exact e2 _
     . exact e3 _
theorem bb{S S':CK}{n v:Nat}(h: ∀i,(S i v).length=(S' i v).length):Me S n v=Me S' n v:=by
 unfold Me
 grind
theorem Te{S S':CK}{n R v:Nat}(h: ∀i,(S i v).length=(S' i v).length):Ja n R S v=Ja n R S' v:=by
 unfold Ja;rw[bb h];refine List.map_congr_left fun i _=>?_
 unfold Tf;rw[h i]
theorem dR{S S':CK}{n R:Nat}(h: ∀v i,(S i v).length=(S' i v).length):Aw (oR n R S) R=Aw (oR n R S') R:=CM fun v _=>by
 unfold oR;rw[Te (h v)]
theorem ZE{S S':CK}{n R:Nat}(h: ∀v i,(S i v).length=(S' i v).length):M4 n R S=M4 n R S':=by
 unfold M4;congr 1;exact funext fun v=>by rw[Te (h v)]
theorem O2{S:CK}{i v:Nat}{l l':List Site}(h:l'.length=l.length): ∀v' i',(Ca S i v l i' v').length=(Ca S i v l' i' v').length:=fun v' i'=>by
 unfold Ca;split
 . exact h.symm
 . rfl
theorem FB{l:List Site}:(flagR l).length=l.length:=by
 grind[Hm,flagR]
theorem K9{l:List Site}:(flagS l).length=l.length:=by
 grind[JA,flagS]
theorem db{l:List Site}(h:0<l.length): ∃l' s,l=l'++[s]:=by
 rcases List.eq_nil_or_concat l with rfl |⟨l',s,rfl⟩
 . simp at h
 grind
theorem si_last{l:List Site}(h:0<l.length): ∃s,l[l.length-1]?=some s/\(l.map Gx).set (l.length-1) [.int .i64 (s.at_:Int),.bool true,.bool s.s]=(flagR l).map Gx/\(l.map Gx).set (l.length-1) [.int .i64 (s.at_:Int),.bool s.r,.bool true]=(flagS l).map Gx:=by
 grind[db,List.getElem?_append_right,Hm,Gx,JA,flagR,flagS]
theorem Zz{R v i:Nat}{S:CK}{l l':List Site}{r0 r1 r2:Nat->AObj}{q:List (List AV)}(hv:v<R)(hl:0<l'.length)(hq:q=l'.map Gx)(x:Nat):F4 r0 r1 r2 (LW R (Ca S i v l')) x=if x=4*(v+R*i)+3 then .row true 3 q else F4 r0 r1 r2 (LW R (Ca S i v l)) x:=by
 have e:LW R (Ca S i v l')=Jg (LW R (Ca S i v l)) (v+R*i) (.row true 3 q):=by
  rw[<-QJ hv,<-QJ hv];refine funext fun m=>?_
  unfold Xi Jg;split
  . rw[hq,L3 hl]
  . rfl
 rw[e,fN]
theorem NN{R v i:Nat}{S:CK}{l:List Site}{r0 r1 r2:Nat->AObj}(hv:v<R)(hl:0<l.length):F4 r0 r1 r2 (LW R (Ca S i v l)) (4*(v+R*i)+3)= .row true 3 (l.map Gx):=by
 rw[O8 hv,GL,L3 hl]
theorem VA(x:Block)(v:Nat): ∀j,(OE x v j).length<=j
 | 0=>by rw[R7];exact Nat.le_refl _
 | j+1=>by
  have ih:=VA x v j
  cases e:x.ins[j]? with
  | none=>
   have:OE x v (j+1)=OE x v j:=by
    have:=List.getElem?_eq_none_iff.1 e;unfold OE;rw[List.take_of_length_le (by omega),List.take_of_length_le this]
   rw[this];omega
  | some t=>
   rw[MJ e,List.length_append]
   cases t.uses.contains (v:Int)||t.sets==(v:Int)<;>simp<;>omega
theorem bG(x:Block)(j:Nat)(us:List Int)(v:Nat):(Bl x j us v).length<=j+1:=by
 grind[Bl,VA,List.length_append]
theorem Xn(f:BFunc):S0=CV f 0 (fun _=>[]):=funext fun a=>funext fun u=>by
 grind[CV,S0]
theorem Pf(f:BFunc)(k:Nat)(x:Block):CV f k (fun _=>[])=CV f k (Bl x 0 []):=IE fun v=>by rw[GX,R7]
abbrev jg(f:BFunc)(R:Nat):List AV:=[.int .i64 f.regs,BZ f.blocks,AU f.nexts,.ref 3 f.blocks.length 0 f.blocks.length,.ref 4 R 0 R,.ref 5 f.blocks.length 0 f.blocks.length,.nil,.nil]
abbrev cn(f:BFunc)(R:Nat)(S:CK)(k:Nat):List AObj:=[.row false 8 [jg f R],.row false 1 (Aw (aR (Au f)) f.blocks.length),.row false 1 (Aw (oR f.blocks.length R S) R),.row false 1 (Aw (gK f k) f.blocks.length),.free,.free]
abbrev YF(f:BFunc)(R:Nat)(S:CK)(k:Nat):Nat->AObj:=F4 (QK f.blocks.length (Au f)) (Oy f k G0) (M4 f.blocks.length R S) (LW R S)
theorem FE(f:BFunc)(R:Nat)(S:CK)(k:Nat): ∀o∈cn f R S k,o.avoid kD=true:=fun o ho=>by
 simp only[cn,List.mem_cons,List.not_mem_nil,or_false]at ho;rcases ho with rfl | rfl | rfl | rfl | rfl | rfl
 . rfl
 . exact Ad (fun b _=>A9 Cs _ _)
 . exact Ad (fun b _=>A0 Cs _ _ _ _)
 . exact Ad (fun b _=>DG Cs _ _ _)
 . rfl
 . rfl
theorem C1{p:Nat->Bool}(hp: ∀x,p (x+16)=true)(f:BFunc)(R:Nat)(S:CK)(k x:Nat):(YF f R S k x).avoid p=true:=Kv (fun _=>IC _) (fun _=>IB _) (fun _=>IA hp _) (fun _=>Iz _) x
theorem Ru{f:BFunc}{R k v i:Nat}{S S2:CK}{l l':List Site}{q:List (List AV)}(hv:v<R)(hl:l'.length=l.length)(h0:0<l.length)(hS:S2=Ca S i v l')(hq:q=l'.map Gx)(x:Nat):
 YF f R S2 k x=if x=4*(v+R*i)+3 then .row true 3 q else YF f R (Ca S i v l) k x:=by
 subst hS;have e:M4 f.blocks.length R (Ca S i v l')=M4 f.blocks.length R (Ca S i v l):=ZE (O2 hl.symm);show F4 _ _ (M4 f.blocks.length R (Ca S i v l')) _ x=_;rw[e];exact Zz hv (by omega) hq x
theorem IZ{n R v i:Nat}{S S2:CK}{l l':List Site}(hl:l'.length=l.length)(hS:S2=Ca S i v l'):Aw (oR n R (Ca S i v l)) R=Aw (oR n R S2) R:=by
 subst hS;exact dR (O2 hl)
theorem Ut{f:BFunc}{k:Nat}{x:Block}{j:Nat}{us:List Int}{q:Nat}{u:Int}(h:us[q]?=some u)(h0:0<=u):CV f k (Bl x j (us.take (q+1)))=Ca (CV f k (Bl x j (us.take q))) k u.toNat (flagR (A2 (CV f k (Bl x j (us.take q)) k u.toNat) j)):=by
 rw[QP,QO];exact IE fun v=>(use_noted h h0 v).symm
theorem Uu{f:BFunc}{k:Nat}{x:Block}{j:Nat}{t:Tac}(ht:x.ins[j]?=some t)(h0:0<=t.sets):CV f k (Bl x (j+1) [])=Ca (CV f k (Bl x j t.uses)) k t.sets.toNat (flagS (A2 (CV f k (Bl x j t.uses) k t.sets.toNat) j)):=by
 rw[QP,QO]
 grind[IE,GX,W6,CV,Bl,Ca,flagS,A2]
theorem Sy{f:BFunc}{k:Nat}{x:Block}{j:Nat}{t:Tac}(ht:x.ins[j]?=some t)(h0: ¬0<=t.sets):CV f k (Bl x j t.uses)=CV f k (Bl x (j+1) []):=IE fun v=>by
 rw[GX];exact SJ ht h0 v
theorem Uw{f:BFunc}{k:Nat}{x:Block}(hx:f.blocks[k]?=some x)(h:x.fin=2)(h0:0<=x.v):CV f (k+1) (fun _=>[])=Ca (CV f k (Bl x x.ins.length [])) k x.v.toNat (flagR (A2 (CV f k (Bl x x.ins.length []) k x.v.toNat) x.ins.length)):=by
 rw[QP,QO,GX]
 grind[SA,GX,X5,CV,Ca,Bl,flagR,A2]
theorem Sz{f:BFunc}{k:Nat}{x:Block}(hx:f.blocks[k]?=some x)(h: ¬x.fin=2):CV f k (Bl x x.ins.length [])=CV f (k+1) (fun _=>[]):=SA hx fun v=>by rw[GX];exact SK h v
theorem Uv{f:BFunc}{k:Nat}{x:Block}{j:Nat}{us:List Int}{v:Nat}(hj:j<=100000):(CV f k (Bl x j us) k v).length<=1000000:=by
 grind[QP,bG,CV,Bl]
section
variable {P : Program} {o : Oper} {e : As} {h : Ab}
def JW(κ:Nat->Bool)(h g:Ab):Ab:=fun c=>bif κ c then g c else h c
theorem HW{κ:Nat->Bool}{h g:Ab}{c:Nat}(hc:κ c=true):JW κ h g c=g c:=by unfold JW;rw[hc];rfl
theorem VQ{κ:Nat->Bool}{h g:Ab}{c:Nat}(hc:κ c=false):JW κ h g c=h c:=by unfold JW;rw[hc];rfl
theorem St{κ:Nat->Bool}{W h:Ab}(hH: ∀b,κ b=true->h b=W b):HSub (JW κ hNone W) h:=fun c o ho=>by
 cases e:κ c with
 | true=>rw[HW e]at ho;rw[hH c e];exact ho
 | false=>rw[VQ e]at ho;cases ho
theorem NK{κ:Nat->Bool}{W h:Ab}(hH: ∀b,κ b=true->h b=W b)(hN: ∀b,κ b=false->W b=some .free):D3 h κ=W:=funext fun b=>by
 unfold D3
 cases e:κ b with
 | true=>rw[cond_true];exact hH b e
 | false=>rw[cond_false];exact(hN b e).symm
theorem ah{f:FuncId}{fn:Func}{args:Array Operand}{tys:Array TypeId}{xs:List AV}{r:AV}{W:Ab}(κ:Nat->Bool)(ho:o.op= .call {callee:=.value (.func f),args:=args,argTypes:=tys})(hf:P.funcs[f]?=some fn)(hnm:(fn.name== "runtime.NumGoroutine")=false)(hb:fn.body.isSome=true)
 (hx:AR e args.toList=some xs) (hxa:xs.all (AV.avoid κ)=true) (hH: ∀b,κ b=true->h b=W b) (hA: ∀b,κ b=true->∃q,W b=some q/\q.avoid κ=true) (hN: ∀b,κ b=false->W b=some .free) (hra:r.avoid κ=true)
 (hcall:ACall P f xs W (fun r' h'=>r'=r/\HSub (JW κ hNone W) h')):LR P o e h h r:=
 J3 (hw:=JW κ hNone W) κ ho hf hnm hb hx hxa (fun b hb=>by rw[hH b hb];exact hA b hb) (NK hH hN) (fun _ _=>rfl)
  (fun b hb=>by obtain⟨q,q1,q2⟩:=hA b hb;exact⟨q,(HW hb).trans q1,(hH b hb).trans q1,q2⟩) hra hcall
theorem ag{f:FuncId}{fn:Func}{args:Array Operand}{tys:Array TypeId}{xs:List AV}{r:AV}{W W':Ab}(κ:Nat->Bool)(ho:o.op= .call {callee:=.value (.func f),args:=args,argTypes:=tys})(hf:P.funcs[f]?=some fn)(hnm:(fn.name== "runtime.NumGoroutine")=false)(hb:fn.body.isSome=true)
 (hx:AR e args.toList=some xs) (hxa:xs.all (AV.avoid κ)=true) (hH: ∀b,κ b=true->h b=W b) (hA: ∀b,κ b=true->∃q,W b=some q/\q.avoid κ=true) (hN: ∀b,κ b=false->W b=some .free) (hA': ∀b,κ b=true->∃q,W' b=some q/\q.avoid κ=true) (hra:r.avoid κ=true)
 (hcall:ACall P f xs W (fun r' h'=>r'=r/\HSub (JW κ hNone W') h')):LR P o e h (JW κ h W') r:=
 J3 (hw:=JW κ hNone W') κ ho hf hnm hb hx hxa (fun b hb=>by rw[hH b hb];exact hA b hb) (NK hH hN) (fun _ hb=>VQ hb)
  (fun b hb=>by obtain⟨q,q1,q2⟩:=hA' b hb;exact⟨q,(HW hb).trans q1,(HW hb).trans q1,q2⟩) hra hcall
theorem aj{f:FuncId}{fn:Func}{x:Operand}{args:Array Operand}{tys:Array TypeId}{fs xs cs:List AV}{r:AV}{hc hw hn:Ab}(κ:Nat->Bool)(ho:o.op= .call {callee:=.value x,args:=args,argTypes:=tys})(hfn:Ak e x=some (.fn (.func f) fs cs))(hf:P.funcs[f]?=some fn)(hnm:(fn.name== "runtime.NumGoroutine")=false)(hb:fn.body.isSome=true)
 (hx:AR e args.toList=some xs) (hxa:(fs++xs++cs).all (AV.avoid κ)=true) (hL: ∀b,κ b=true->∃q,h b=some q/\q.avoid κ=true) (hres':D3 h κ=hc) (hW: ∀b,κ b=false->hn b=h b)
 (hk: ∀b,κ b=true->∃q,hw b=some q/\hn b=some q/\q.avoid κ=true) (hra:r.avoid κ=true)
 (hcall:ACall P f (fs++xs++cs) hc (fun r' h'=>r'=r/\HSub hw h')):LR P o e h hn r:=by
 intro H ι a w n Q hs;have hvf:=Am hs hfn;obtain⟨us,vs,hve,k1,k2,k3,k4⟩:=hvf.fn_inv;have hraa:=Ci (Ci ⟨k1,k3⟩ (B3 hs hx)) ⟨k2,k4⟩;have hra':RelAll H (lcut ι κ) (fs++xs++cs) (us++args.map a.eval++vs):=⟨hraa.1,fun j x v h1 h2=>DV (hraa.2 j x v h1 h2) (Ev hxa h1)⟩;have hrc:HeapRel H (lcut ι κ) (D3 h κ) w:=by
  exact jW
 have hcalls:=hcall H (lcut ι κ) w _ hra' (hres'▸hrc);have hexec:(execOp a.eval o).run P w= .ok (.enter f (us++args.map a.eval++vs)) w:=by
  simp only[execOp,ho,resolve,hve,Deferred.ofValue,invoke,Sem.run_bind,Sem.run_pure,Result.andThen_ok,BO hf hnm hb]
 exact jS
theorem ai{f:FuncId}{fn:Func}{x:Operand}{args:Array Operand}{tys:Array TypeId}{fs xs cs:List AV}{r:AV}{W:Ab}(κ:Nat->Bool)(ho:o.op= .call {callee:=.value x,args:=args,argTypes:=tys})(hfn:Ak e x=some (.fn (.func f) fs cs))(hf:P.funcs[f]?=some fn)(hnm:(fn.name== "runtime.NumGoroutine")=false)(hb:fn.body.isSome=true)
 (hx:AR e args.toList=some xs) (hxa:(fs++xs++cs).all (AV.avoid κ)=true) (hH: ∀b,κ b=true->h b=W b) (hA: ∀b,κ b=true->∃q,W b=some q/\q.avoid κ=true) (hN: ∀b,κ b=false->W b=some .free) (hra:r.avoid κ=true)
 (hcall:ACall P f (fs++xs++cs) W (fun r' h'=>r'=r/\HSub (JW κ hNone W) h')):LR P o e h h r:=
 aj (hw:=JW κ hNone W) κ ho hfn hf hnm hb hx hxa (fun b hb=>by rw[hH b hb];exact hA b hb) (NK hH hN) (fun _ _=>rfl)
  (fun b hb=>by obtain⟨q,q1,q2⟩:=hA b hb;exact⟨q,(HW hb).trans q1,(hH b hb).trans q1,q2⟩) hra hcall
end
def kW:Nat->Bool:=fun c=>(Nat.ble 2 c&&Nat.blt c 9)||(Nat.beq c 12||Nat.ble 16 c)
theorem S5(x:Nat):kW (x+16)=true:=by
 unfold kW;rw[show Nat.ble 16 (x+16)=true by rw[Nat.ble_eq];omega];simp
theorem aI{c:Nat}(h:c<16):c=0\/c=1\/c=2\/c=3\/c=4\/c=5\/c=6\/c=7\/c=8\/c=9\/c=10\/c=11\/c=12\/c=13\/c=14\/c=15:=by omega
abbrev WH(r2 r3 r4 r5 r6 r7 A B:AObj)(F:Nat->AObj):Ab:=GV (nb [.free,.free,r2,r3,r4,r5,r6,r7,A,.free,.free,.free,B]) F
theorem Ws{r2 r3 r4 r5 r6 r7 A B:AObj}{F:Nat->AObj}: ∀b,kW b=false->WH r2 r3 r4 r5 r6 r7 A B F b=some .free:=fun b hb=>by
 rcases Nat.lt_or_ge b 16 with h | h
 . rcases aI h with rfl | rfl | rfl | rfl | rfl | rfl | rfl | rfl | rfl | rfl | rfl | rfl | rfl | rfl | rfl | rfl<;>first | rfl |(exact absurd hb (by decide))
 . obtain⟨x,rfl⟩: ∃x,b=x+16:=⟨b-16,by omega⟩
   rw[S5]at hb;cases hb
theorem cf{r2 r3 r4 r5 r6 r7 A B:AObj}{F:Nat->AObj}(h2:r2.avoid kW=true)(h3:r3.avoid kW=true)(h4:r4.avoid kW=true)(h5:r5.avoid kW=true)(h6:r6.avoid kW=true)(h7:r7.avoid kW=true)(hA:A.avoid kW=true)(hB:B.avoid kW=true)(hF: ∀x,(F x).avoid kW=true):
 ∀b,kW b=true->∃q,WH r2 r3 r4 r5 r6 r7 A B F b=some q/\q.avoid kW=true:=fun b hb=>by
 rcases Nat.lt_or_ge b 16 with h | h
 . rcases aI h with rfl | rfl | rfl | rfl | rfl | rfl | rfl | rfl | rfl | rfl | rfl | rfl | rfl | rfl | rfl | rfl<;>first | exact absurd hb (by decide) | exact⟨_,rfl,h2⟩ | exact⟨_,rfl,h3⟩ | exact⟨_,rfl,h4⟩ | exact⟨_,rfl,h5⟩ | exact⟨_,rfl,h6⟩ | exact⟨_,rfl,h7⟩ | exact⟨_,rfl,hA⟩ | exact⟨_,rfl,hB⟩
 . obtain⟨x,rfl⟩: ∃x,b=x+16:=⟨b-16,by omega⟩
   exact⟨_,Ao _ _ _,hF x⟩
theorem Wr{h:Ab}{r2 r3 r4 r5 r6 r7 A B:AObj}{F:Nat->AObj}(h2:h 2=some r2)(h3:h 3=some r3)(h4:h 4=some r4)(h5:h 5=some r5)(h6:h 6=some r6)(h7:h 7=some r7)(hA:h 8=some A)(hB:h 12=some B)(hF: ∀x,h (x+16)=some (F x)):
 ∀b,kW b=true->h b=WH r2 r3 r4 r5 r6 r7 A B F b:=fun b hb=>by
 rcases Nat.lt_or_ge b 16 with g | g
 . rcases aI g with rfl | rfl | rfl | rfl | rfl | rfl | rfl | rfl | rfl | rfl | rfl | rfl | rfl | rfl | rfl | rfl<;>first | exact absurd hb (by decide) | exact h2 | exact h3 | exact h4 | exact h5 | exact h6 | exact h7 | exact hA | exact hB
 . obtain⟨x,rfl⟩: ∃x,b=x+16:=⟨b-16,by omega⟩
   exact(hF x).trans (Ao _ _ _).symm
abbrev ArW:AObj:=.row false 1 [[.ptr 2 1 0 0]]
abbrev qC(i:Nat):AObj:=.row false 1 [[.int .i64 (i:Int)]]
abbrev WS(f:BFunc)(R:Nat)(S:CK)(G:GG)(es:List (List AV))(len:Nat)(w:Nat->Bool)(i:Nat):Ab:=
  WH (.row false 8 [RF f R es.length len]) (.row false 1 (Aw (aR (Au f)) f.blocks.length)) (.row false 1 (Aw (oR f.blocks.length R S) R)) (.row false 1 (Aw (gR f) f.blocks.length)) (.row true 1 es) (.row true 1 (bC R w)) ArW (qC i) (DF f R S G)
theorem TG(f:BFunc)(R:Nat)(S:CK)(G:GG)(es:List (List AV))(len:Nat)(w:Nat->Bool)(i:Nat): ∀b,kW b=true->∃q,WS f R S G es len w i b=some q/\q.avoid kW=true:=
 cf rfl (Ad (fun b _=>A9 S5 _ _)) (Ad (fun b _=>A0 S5 _ _ _ _)) (Ad (fun b _=>BP S5 _ _)) rfl rfl rfl rfl (A7 S5 f R S G)
theorem SU{G:Nat->Bool}{l:List Tac}{j:Nat}{t:Tac}(h:l[j]?=some t):D5 G (l.take (j+1)) 0=D5 G (l.take j) 0++(bif G j then []else [t]):=by
 have hj:=(List.getElem?_eq_some_iff.1 h).1;have e:l.take (j+1)=l.take j++[t]:=by rw[List.take_add_one,h];rfl
 grind[QX,D5]
theorem SX{G:Nat->Bool}{l:List Tac}{j:Nat}{t:Tac}(h:l[j]?=some t)(hg:G j=true):D5 G (l.take (j+1)) 0=D5 G (l.take j) 0:=by rw[SU h,hg];simp
theorem SW{G:Nat->Bool}{l:List Tac}{j:Nat}{t:Tac}(h:l[j]?=some t)(hg:G j=false):(D5 G (l.take j) 0).map Tac.cells++[t.cells]=(D5 G (l.take (j+1)) 0).map Tac.cells:=by rw[SU h,hg,List.map_append];rfl
theorem bE{f:BFunc}{G:GG}{m:Nat}(h: ∀x∈f.blocks,x.ins.length<=m): ∀x∈(Cg f G).blocks,x.ins.length<=m:=fun y hy=>by
 obtain⟨b,hb⟩:=List.mem_iff_getElem?.1 hy;obtain⟨x,hx,rfl⟩:=Mj hb;exact Nat.le_trans (Mb (G b) x.ins 0) (h x (List.mem_of_getElem? hx))
theorem dh{f:BFunc}{R:Nat}:some (AObj.row false 8 [RF f R ((List.range R).map By).length R])=some (AObj.row false 8 [RF f R (jf R).es.length (jf R).ws.length]):=by
 show some (AObj.row false 8 [RF f R ((List.range R).map By).length R])=some (AObj.row false 8 [RF f R ((List.range R).map By).length (List.range R).length]);rw[List.length_range]
theorem ay{x:Block}{n:Nat}{r:Int}(h:x.ends n r=true): ∀d∈x.nexts,0<=d/\d<n:=fun d hd=>by
 unfold Block.ends at h;unfold Block.nexts at hd
 cases e1:x.fin==1 with
 | true=>
  rw[e1]at h hd;simp[AP]at h hd;omega
 | false=>
  cases e2:x.fin==2 with
  | true=>
   rw[e1,e2]at h hd;simp[AP]at h hd;omega
  | false=>
   rw[e1,e2]at hd;simp at hd
theorem one_sane{f:BFunc}{n w:Int}(h:f.one n w=true):f.sane:=by
 obtain⟨h1,h2,h3,h4⟩:=Dd h;refine⟨h1,fun x hx t ht=>Tn ((h4 x hx).2 t ht),fun x hx e=>?_,fun x hx=>ay (h4 x hx).1⟩;have he:=(h4 x hx).1;unfold Block.ends at he;rw[e]at he;simp[AP]at he;omega
theorem dnf_insW{b:Blocks}(h:b.insW):b.dnf.insW:=fun g hg x hx=>by
 obtain⟨f,hf,rfl⟩:=List.mem_map.1 hg;have key: ∀{f g:BFunc},Cuts f g->(∀x∈f.blocks,Sv.I2 x.ins)->∀x∈g.blocks,Sv.I2 x.ins:=fun {f g} hc=>by
  induction hc with
  | refl=>exact fun h=>h
  | step a _ ih=>
   intro h;refine ih fun y hy=>?_
   obtain⟨c,x,l1,t,l2,v,ha⟩:=a;rw[ha.hg]at hy;rcases List.mem_or_eq_of_mem_set hy with hy | rfl
   . exact h y hy
   . have:=h x (List.mem_of_getElem? ha.hx);rw[ha.hi]at this;intro t ht;refine this t ?_;rcases List.mem_append.1 (show t∈l1++l2 from ht)with h | h
     . exact List.mem_append.2 (.inl h)
     . exact List.mem_append.2 (.inr (List.mem_cons.2 (.inr h)))
 exact key (GW f) (h f hf) x hx
inductive Part:List Tac->List Tac->Prop
  | nil:Part [] []
  | keep (t:Tac) {x y:List Tac}:Part x y->Part (t::x) (t::y)
  | drop {t:Tac} {x y:List Tac}:t.pure=true->Part x y->Part (t::x) y
theorem Part.trans{x y z:List Tac}(h:Part x y):Part y z->Part x z:=by
 induction h generalizing z with
 | nil=>exact fun h=>h
 | keep t _ ih=>
  intro h
  cases h with
  | keep _ h=>exact .keep t (ih h)
  | drop h1 h2=>exact .drop h1 (ih h2)
 | drop h1 _ ih=>exact fun h=>.drop h1 (ih h)
theorem Y6{f:BFunc}(h:f.tame){x:Block}(hx:x∈f.tidy.blocks): ∃p,oc f.blocks.length p/\p.length<=f.blocks.length+1/\x.ins=f.joined p:=by
 simp only[BFunc.tidy,List.mem_map]at hx;obtain⟨p,hp,rfl⟩:=hx;exact⟨p,HX h.leads _ (Nat.le_refl _) p hp,E4 _ p hp,rfl⟩
theorem WZ{f:BFunc}(h:f.tame)(hw: ∀x∈f.blocks,Sv.I2 x.ins): ∀x∈f.tidy.blocks,Sv.I2 x.ins:=fun x hx t ht=>by
 obtain⟨p,h1,h2,h3⟩:=Y6 h hx;rw[h3]at ht;obtain⟨i,hi,hti⟩:=Nv ht;exact hw _ (List.mem_of_getElem? (Bs (h1.2 i hi))) t hti
noncomputable def EA(f:BFunc)(k:Int):OPass:=bif k==1 then⟨1,f.all,[],f.fold⟩else bif k==2 then⟨2,f.fcert,[],f.forward⟩else bif k==3 then⟨3,⟨Hk (U2 f)⟩,[],U2 f⟩else⟨4,⟨[]⟩,f.tpaths,f.tidy⟩
structure PS35(n w:Int)(f:BFunc):Prop where
  one:f.one n w=true
  r:f.regs<=30
  c:f.count<=200
  i: ∀x∈f.blocks,I2 x.ins
section
variable {n w : Int} {f : BFunc}
theorem PS35.len(h:PS35 n w f):f.blocks.length<=200/\∀x∈f.blocks,x.ins.length<=200:=by
 have hc:=h.c;refine⟨by have:=DJ f;omega,fun x hx=>?_⟩;have:x.count<=f.count:=H6 hx;simp only[Block.count]at this;omega
theorem PS35.mild(h:PS35 n w f):f.mild:=by
 obtain⟨h1,h2,h3,h4⟩:=Dd h.one;have hl:=h.len;exact⟨h1,by omega,by omega,fun x hx=>⟨by have:=hl.2 x hx;omega,h.i x hx⟩⟩
theorem PS35.tame(h:PS35 n w f):f.tame:=by
 have hle:=Hj h.one;have hl:=h.len;exact⟨by omega,fun x hx=>by have:=hl.2 x hx;omega,hle,fun k hk=>PN hle hk⟩
theorem Ya(f:BFunc):(U2 f).count<=f.count:=by
 have key: ∀{f g:BFunc},Cuts f g->g.count<=f.count:=fun {f g} hc=>by
  induction hc with
  | refl=>exact Nat.le_refl _
  | @step f g h a b ih=>
   have h1:=Gn a;have h2:=(N7 (Cuts.one a)).2;have h3:=DJ f;have h4:=DJ g;have h5:C8 f.blocks=aM f:=rfl;have h6:C8 g.blocks=aM g:=rfl;omega
 exact key (GW f)
theorem UR(f:BFunc):f.fold.count=f.count:=by
 show((f.blocks.map _).map Block.count).sum=_;rw[List.map_map];exact congrArg List.sum (List.map_congr_left fun x _=>by show 1+(Du [] x.ins).length=1+x.ins.length;rw[BH])
theorem PS35.step(h:PS35 n w f)(k:Int):PS35 n w (EA f k).f:=by
 have hle:=Hj h.one;have hne:=(Dd h.one).2.2.1;unfold EA
 cases k==1 with
 | true=>exact⟨Z4 h.one,h.r,by show f.fold.count<=200;rw[UR];exact h.c,fun x hx=>((XV h.mild).2.2.2 x hx).2⟩
 | false=>
 cases k==2 with
 | true=>exact⟨SF h.one,h.r,by show f.forward.count<=200;rw[OP];exact h.c,fun x hx=>by
  obtain⟨y,hy,rfl⟩:=List.mem_map.1 (show x∈f.blocks.map _ from hx);exact PQ _ _ (h.i y hy)⟩
 | false=>
 cases k==3 with
 | true=>exact⟨eS h.one,by show(U2 f).regs<=30;rw[(N7 (GW f)).1];exact h.r,Nat.le_trans (Ya f) h.c,fun x hx=>dnf_insW (b:=⟨0,[f]⟩) (fun g hg=>by rw[List.mem_singleton.1 hg];exact h.i) (U2 f) (by simp[Blocks.dnf]) x hx⟩
 | false=>exact⟨dJ (MB hle hne) h.one,h.r,Nat.le_trans (T8 hle) h.c,WZ h.tame h.i⟩
end
section
variable {call call' : Int -> Mach -> Mach} {s : ByteArray}
theorem NF: ∀(l:List Tac) (regs:List Int) (m:Mach),(Bh call s l regs m).2.1.length=regs.length
 | [],_,_=>rfl
 | t::r,regs,m=>by
  unfold Bh
  cases (mone call s t regs m).2.fin==0 with
  | false=>exact mone_len t regs m
  | true=>exact(NF r _ _).trans (mone_len t regs m)
theorem PA: ∀(l:List Tac) (K:Cv) (regs:List Int) (m:Mach),(∀t∈l,setsOp t.op=true->0<=t.d/\t.d<regs.length)->V5 K regs->FK K->Bh call s (Du K l) regs m=Bh call s l regs m
 | [],_,_,_,_,_,_=>rfl
 | t::r,K,regs,m,hl,hk,hu=>by
  have h1:=UI (call:=call) (s:=s) hk t m;have hkn:=UK (call:=call) (s:=s) hk hu (u:=C3 K t) (fun h=>by rw[eH];exact hl t (by simp) (Kg h)) m;rw[h1]at hkn;simp only[Du,Bh,h1];rw[PA r (GU K (C3 K t)) _ _ (fun u hu' hs=>by rw[mone_len];exact hl u (by simp[hu']) hs) hkn (RU hu _)]
theorem PE{f:BFunc}(hf: ∀x∈f.blocks,∀t∈x.ins,setsOp t.op=true->0<=t.d/\t.d<f.regs.toNat): ∀(g:Nat) (i:Int) (regs:List Int) (m:Mach),regs.length=f.regs.toNat->kblk call s f.fold g i regs m=kblk call s f g i regs m
 | 0,_,_,_,_=>rfl
 | g+1,i,regs,m,hr=>by
  have e:f.fold.blocks[i.toNat]?=(f.blocks[i.toNat]?).map Block.fold:=by simp[BFunc.fold]
  cases hk:f.blocks[i.toNat]? with
  | none=>unfold kblk;rw[e,hk];rfl
  | some k=>
   have hm:Bh call s k.fold.ins regs m.tick=Bh call s k.ins regs m.tick:=PA k.ins [] regs m.tick (fun t ht hs=>by rw[hr];exact hf k (List.mem_of_getElem? hk) t ht hs) (fun z v h=>by cases h) (by simp[FK]);rw[En hk,En (k:=k.fold) (by rw[e,hk];rfl),hm];have ih:=PE hf g (k.next (Bh call s k.ins regs m.tick).2.1) (Bh call s k.ins regs m.tick).2.1 (Bh call s k.ins regs m.tick).2.2 (by rw[NF];exact hr);unfold Fk;rw[show k.fold.fin=k.fin from rfl,show k.fold.next (Bh call s k.ins regs m.tick).2.1=k.next (Bh call s k.ins regs m.tick).2.1 from rfl,ih]
def ff(R:Nat)(fr regs:List Int):Prop:=regs.length=R/\∀v:Int,0<=v->v<R->rget regs v=rget regs (rget fr v)
theorem iM{R:Nat}{regs:List Int}(h:regs.length=R):ff R (Ke R) regs:=⟨h,fun v h0 h1=>by
 obtain⟨u,rfl⟩: ∃u:Nat,v=u:=⟨v.toNat,by omega⟩
 rw[IR (by omega)]⟩
theorem aC{R:Nat}{fr regs:List Int}(h:ff R fr regs){t:Tac}(ht:cj R t)(m:Mach):mone call s (subT fr t) regs m=mone call s t regs m:=by
 unfold subT
 cases e1:use1 t.op with
 | true=>
  have ha:=ht.u1 e1;simp only[cond_true];unfold mone;dsimp only;rw[<-h.2 t.a ha.1 ha.2]
 | false=>
  cases e2:use2 t.op with
  | true=>
   obtain⟨ha,hb⟩:=ht.u2 e2;simp only[cond_true,cond_false];unfold mone;dsimp only;rw[<-h.2 t.a ha.1 ha.2,<-h.2 t.b hb.1 hb.2]
  | false=>rfl
theorem bh{R:Nat}{fr regs:List Int}(h:ff R fr regs)(hr:LX R fr){t:Tac}(ht:cj R t){m:Mach}(h0:(mone call s t regs m).2.fin=0):ff R (DE fr t) (mone call s t regs m).1:=by
 obtain⟨_,hm⟩:=SN (call:=call) (s:=s) t (r:=regs) (r':=regs) (fun _=>rfl) (fun _=>rfl) m;rcases hm with⟨hs,v,hv,_⟩ |⟨hv,_,hs⟩
 . have hd:=ht.d hs;have hsd:t.sets=t.d:=by unfold Tac.sets;rw[hs];rfl
   have hlt:t.d<regs.length:=by rw[h.1];exact hd.2
   have main:ff R (Cb t.sets fr) (mone call s t regs m).1:=by
    rw[hv,hsd];refine⟨by rw[CT];exact h.1,fun u u0 u1=>?_⟩;obtain⟨w,rfl⟩: ∃w:Nat,u=w:=⟨u.toNat,by omega⟩
    rw[C6 (by rw[hr.len];omega)]
    cases e:((w:Int)==t.d||rget fr w==t.d)with
    | true=>rfl
    | false=>
     simp only[Bool.or_eq_false_iff,beq_eq_false_iff_ne]at e;simp only[cond_false];rw[DR hd.1 u0 e.1,DR hd.1 (hr.ran w u0 u1).1 e.2];exact h.2 w u0 u1
   unfold DE;rw[show decide (t.sets>=0)=true by rw[hsd];simpa using hd.1]
   cases e2:(t.op==2&&t.a !=t.sets)with
   | false=>exact main
   | true=>
    simp only[Bool.and_eq_true,beq_iff_eq,bne_iff_ne]at e2;simp only[cond_true];have ha:=ht.u1 (by rw[e2.1];rfl);have hval:(mone call s t regs m).1=AZ regs t.d (rget regs t.a):=by unfold mone;rw[e2.1];rfl
    refine⟨main.1,fun u u0 u1=>?_⟩;rw[hsd]at e2 main |-
    by_cases e:u=t.d
    . subst e;rw[G8 ⟨u0,by rw[C5,hr.len];exact u1⟩,hval,G8 ⟨u0,hlt⟩,DR u0 ha.1 e2.2]
    . rw[DR hd.1 u0 e];exact main.2 u u0 u1
 grind[Tac.sets,DE,ff,mone]
theorem kins_fwd{n w:Int}{R:Nat}: ∀(l:List Tac) (fr regs:List Int) (m:Mach),LX R fr->ff R fr regs->(∀t∈l,t.fits n R w=true)->
 Bh call s (Dq fr l).1 regs m=Bh call s l regs m/\((Bh call s l regs m).1=true->ff R (Dq fr l).2 (Bh call s l regs m).2.1)
 | [],_,_,_,_,h,_=>⟨rfl,fun _=>h⟩
 | t::r,fr,regs,m,hr,h,hl=>by
  have ht:=hl t (by simp);have hsub:=Vt hr ht;have h1:=aC (call:=call) (s:=s) h (fits_tacR ht) m;show Bh call s (subT fr t::(Dq (DE fr (subT fr t)) r).1) regs m=_/\(_->ff R (Dq (DE fr (subT fr t)) r).2 _);unfold Bh;rw[h1]
  cases hf:(mone call s t regs m).2.fin==0 with
  | false=>exact⟨rfl,fun e=>by cases e⟩
  | true=>
   have hn:=bh (call:=call) (s:=s) h hr (fits_tacR hsub) (m:=m) (by rw[h1];simpa using hf);rw[h1]at hn;exact kins_fwd r _ _ _ (O7 hr hsub) hn fun u hu=>hl u (by simp[hu])
theorem S3{n w:Int}{f:BFunc}{R:Nat}(hR:f.regs=(R:Int))(hf: ∀x∈f.blocks,(x.fin=2->0<=x.v/\x.v<R)/\∀t∈x.ins,t.fits n R w=true): ∀(g:Nat) (i:Int) (regs:List Int) (m:Mach),regs.length=R->kblk call s f.forward g i regs m=kblk call s f g i regs m
 | 0,_,_,_,_=>rfl
 | g+1,i,regs,m,hr=>by
  have e:f.forward.blocks[i.toNat]?=(f.blocks[i.toNat]?).map (Block.forward R):=by
   show(f.blocks.map _)[i.toNat]?=_;rw[List.getElem?_map,hR];rfl
  cases hk:f.blocks[i.toNat]? with
  | none=>unfold kblk;rw[e,hk];rfl
  | some k=>
   obtain⟨hv,hi⟩:=hf k (List.mem_of_getElem? hk);obtain⟨hm,ha⟩:=kins_fwd (call:=call) (s:=s) k.ins (Ke R) regs m.tick (VI R) (iM hr) hi;rw[En hk,En (k:=k.forward R) (by rw[e,hk];rfl)];show(bif (Bh call s (Dq (Ke R) k.ins).1 regs m.tick).1 then Fk call s f.forward (k.forward R) g (Bh call s (Dq (Ke R) k.ins).1 regs m.tick).2.1 (Bh call s (Dq (Ke R) k.ins).1 regs m.tick).2.2 else(Bh call s (Dq (Ke R) k.ins).1 regs m.tick).2.2)=_;rw[hm]
   cases hc:(Bh call s k.ins regs m.tick).1 with
   | false=>rfl
   | true=>
    simp only[cond_true];have ha':=ha hc;unfold Fk;have hnx:(k.forward R).next (Bh call s k.ins regs m.tick).2.1=k.next (Bh call s k.ins regs m.tick).2.1:=by
     unfold Block.next Block.forward;dsimp only
     cases e2:k.fin==2 with
     | false=>rfl
     | true=>
      have hz:=hv (by simpa using e2);simp only[cond_true,Bool.true_and];rw[<-ha'.2 k.v hz.1 hz.2]
    rw[hnx,S3 hR hf g _ _ _ (by rw[NF];exact hr)];rfl
theorem IP(hc:DK call call' cz){z:Nat->Bool}: ∀(l:List Tac),(∀t∈l,t.low)->∀{a b:List Int} {m m':Mach},EQ (fun v=>need v l (z v)) a b->m.fin=0->m.Le m'->Kc z (Bh call s l a m) (Bh call' s l b m')
 | [],_,a,b,m,m',ha,h0,h=>.inr ⟨rfl,h,fun _=>⟨h0,ha⟩,fun e=>by cases e⟩
 | t::r,hl,a,b,m,m',ha,h0,h=>by
  unfold Bh;obtain⟨b2,b1⟩:=XA (s:=s) hc (fun _=>trivial) (hl t (by simp)) ha h0 h;rcases b2 with b2 | b2
  . rw[show((mone call s t a m).2.fin==0)=false by rw[b2];rfl];exact .inl ⟨rfl,b2⟩
  . rw[b2.fin]
    cases hf:(mone call s t a m).2.fin==0 with
    | false=>
     simp only[cond_false];exact .inr ⟨rfl,b2,(fun e=>by cases e),fun _=>by simpa using hf⟩
    | true=>
     simp only[cond_true];exact IP hc r (fun u hu=>hl u (by simp[hu])) (b1 (by simpa using hf)) (by simpa using hf) b2
theorem aG(hc:DK call call' cz){z:Nat->Bool}{l1 l2:List Tac}{t:Tac}{v:Nat}(hl: ∀u∈l1++t::l2,u.low)(hp:t.pure=true)(hk:t.op=3->4<=t.k/\t.k<=15)(hv:t.sets=(v:Int))(hd:need v l2 (z v)=false)
 {a b:List Int} {m m':Mach} (ha:EQ (fun v=>need v (l1++t::l2) (z v)) a b) (h0:m.fin=0) (h:m.Le m'):Kc z (Bh call s (l1++t::l2) a m) (Bh call' s (l1++l2) b m'):=by
 have h1:=IP (s:=s) hc (z:=fun v=>need v (t::l2) (z v)) l1 (fun u hu=>hl u (by simp[hu])) (a:=a) (b:=b) ⟨ha.1,fun w hw=>ha.2 w (by show need w _ _=true;rw[HY];exact hw)⟩ h0 h;rw[Gk,Gk];generalize Bh call s l1 a m=X at h1 |-;generalize Bh call' s l1 b m'=Y at h1 |-;obtain⟨X1,X2,X3⟩:=X;obtain⟨Y1,Y2,Y3⟩:=Y;rcases h1 with⟨h1,h2⟩ |⟨h1,h2,h3,h4⟩
 . simp only at h1 h2;subst h1;exact .inl ⟨rfl,h2⟩
 . simp only at h1 h2 h3 h4;subst h1
   cases X1 with
   | false=>exact .inr ⟨rfl,h2,(fun e=>by cases e),h4⟩
   | true=>
    simp only[cond_true];obtain⟨hz,hag⟩:=h3 rfl;obtain⟨val,hmo⟩:=Xz (call:=call) (s:=s) hp hk X2 X3;have hlt:=hl t (by simp);have hso:=Xm hp;have hdv:t.d=(v:Int):=by rw[<-Iw hso];exact hv
    have hkey:=IP (s:=s) hc (z:=z) l2 (fun u hu=>hl u (by simp[hu])) (a:=AZ X2 t.d val) (b:=Y2) (m:=X3) (m':=Y3)
     ⟨by rw[MT];exact hag.1,fun w hw=>by
      have hne: ¬t.d=(w:Int):=fun e=>by
       have:v=w:=by omega
       subst this;rw[show need v l2 (z v)=true from hw]at hd;cases hd
      rw[KL (hlt.1 hso),if_neg (fun e=>hne e.1)];refine hag.2 w ?_;show need w (t::l2) (z w)=true;unfold need;rw[Iw hso,show(t.d==(w:Int))=false by simpa using hne,show need w l2 (z w)=true from hw]
      simp⟩ hz h2
    show Kc z (bif (mone call s t X2 X3).2.fin==0 then Bh call s l2 (mone call s t X2 X3).1 (mone call s t X2 X3).2 else(false,mone call s t X2 X3)) _;rw[hmo];simp only[hz];exact hkey
theorem S4(hc:DK call call' cz){f g:BFunc}{c:Nat}{x:Block}{l1 l2:List Tac}{t:Tac}{v:Nat}(hcut:Fa f g c x l1 t l2 v)(hf:cq cz f):
 ∀(n:Nat) (i:Int) (a b:List Int) (m m':Mach),EQ (fun v=>UM f v i.toNat) a b->m.fin=0->m.Le m'->(kblk call s f n i a m).Sim (kblk call' s g n i b m')
 | 0,_,_,_,_,_,_,_,_=>.inl rfl
 | n+1,i,a,b,m,m',hag,h0,h=>by
  cases hk:f.blocks[i.toNat]? with
  | none=>
   have hk':g.blocks[i.toNat]?=none:=by
    rw[List.getElem?_eq_none_iff]at hk |-;rw[hcut.hg,JX];exact hk
   unfold kblk;rw[hk,hk'];exact .inr h
  | some k=>
   obtain⟨k',hk',hkn,hs⟩: ∃k',g.blocks[i.toNat]?=some k'/\(k'.fin=k.fin/\∀r,k'.next r=k.next r)/\Kc (endB f k) (Bh call s k.ins a m.tick) (Bh call' s k'.ins b m'.tick):=by
    have hin:=hf.ins k (List.mem_of_getElem? hk);have hag':EQ (fun v=>need v k.ins (endB f k v)) a b:=⟨hag.1,fun w hw=>hag.2 w (by show UM f w _=true;rw[aP hk];exact hw)⟩
    by_cases hci:c=i.toNat
    . subst hci;have:=hcut.hx.symm.trans hk;cases this;refine⟨x.mid (l1++l2),by rw[hcut.hg];exact Eb hcut.hx,⟨rfl,fun _=>rfl⟩,?_⟩;have hi:=hcut.hi;show Kc (endB f x) (Bh call s x.ins a m.tick) (Bh call' s (l1++l2) b m'.tick);rw[hi]at hin hag' |-;exact aG hc (fun u hu=>(hin u hu).2.1) hcut.pure (hin t (by simp)).2.2 hcut.hv hcut.dead hag' h0 h.tick
    . exact⟨k,by rw[hcut.hg,Hc hci];exact hk,⟨rfl,fun _=>rfl⟩,IP hc k.ins (fun u hu=>(hin u hu).2.1) hag' h0 h.tick⟩
   rw[En hk,En hk'];have hfin:=hf.fin k (List.mem_of_getElem? hk);generalize Bh call s k.ins a m.tick=X at hs |-;generalize Bh call' s k'.ins b m'.tick=Y at hs |-;obtain⟨X1,X2,X3⟩:=X;obtain⟨Y1,Y2,Y3⟩:=Y;rcases hs with⟨h1,h2⟩ |⟨h1,h3,h4,h5⟩
   . simp only at h1 h2;subst h1;exact .inl h2
   . simp only at h1 h3 h4 h5;subst h1
     cases X1 with
     | false=>exact .inr h3
     | true=>
      simp only[cond_true];obtain⟨hz,hag2⟩:=h4 rfl;unfold Fk;rw[hkn.1,hkn.2]
      cases hfin3:k.fin==3 with
      | true=>exact .inr h3
      | false=>
       simp only[cond_false];rw[<-UD hfin.2 hag2];exact S4 hc hcut hf n _ _ _ _ _ (Va hfin.1 hfin3 hag2) hz h3
end
theorem FSm.fold{f:BFunc}{n w:Int}(h:f.one n w=true):FSm f f.fold:=fun call s G hc m m' h0 hl=>by
 have hs:=Dd h;rw[show f.fold.regs=f.regs from rfl,PE (fun x hx t ht e=>by
  have:=(Tn ((hs.2.2.2 x hx).2 t ht)).1 e;omega) G 0 _ m' (by simp)]
 exact IQ hc G _ _ h0 hl
theorem FSm.forward{f:BFunc}{n w:Int}(h:f.one n w=true):FSm f f.forward:=fun call s G hc m m' h0 hl=>by
 obtain⟨h1,h2,h3,h4⟩:=Dd h;obtain⟨R,hR⟩: ∃R:Nat,f.regs=(R:Int):=⟨f.regs.toNat,by omega⟩
 rw[show f.forward.regs=f.regs from rfl,S3 (n:=n) (w:=w) hR (fun x hx=>⟨fun e=>by
  have he:=(h4 x hx).1;unfold Block.ends at he;rw[e]at he;simp[AP]at he;omega,fun t ht=>by rw[<-hR];exact(h4 x hx).2 t ht⟩) G 0 _ m' (by rw[hR];simp)]
 exact IQ hc G _ _ h0 hl
theorem cr{f g:BFunc}(h:Cuts f g)(hf:cq cz f):FSm f g:=by
 induction h with
 | refl f=>exact TH f
 | @step f g h a1 b ih=>
  refine FSm.trans ?_ (ih (bm a1 hf));have hr:=(N7 (Cuts.one a1)).1;obtain⟨c,x,l1,t,l2,v,a1⟩:=a1;intro call s G hc m m' h0 hl;rw[hr];exact S4 hc a1 hf G 0 _ _ m m' ⟨rfl,fun _ _=>rfl⟩ h0 hl
theorem FSm.dnf{f:BFunc}{n w:Int}(h:f.one n w=true):FSm f (U2 f):=by
 have hf:=Z5 h;exact cr (GW f) ⟨fun x hx t ht=>⟨fun _=>trivial,(hf.ins x hx t ht).2⟩,hf.fin⟩
section
variable {n w : Int}
theorem PS35.fs{f:BFunc}(h:PS35 n w f)(k:Int):FSm f (EA f k).f:=by
 have hs:=Dd h.one;unfold EA
 cases k==1 with
 | true=>exact FSm.fold h.one
 | false=>
 cases k==2 with
 | true=>exact FSm.forward h.one
 | false=>
 cases k==3 with
 | true=>exact FSm.dnf h.one
 | false=>exact FSm.tidy (MB (Hj h.one) hs.2.2.1) fun x hx=>Tr (hs.2.2.2 x hx).1
theorem Tq: ∀(ks:List Int) (f:BFunc),PS35 n w f->PS35 n w (HE EA ks f)/\FSm f (HE EA ks f)
 | [],f,h=>⟨h,TH f⟩
 | k::r,f,h=>by
  obtain⟨h1,h2⟩:=Tq r (EA f k).f (h.step k);exact⟨h1,(h.fs k).trans h2⟩
end
noncomputable def Jr(b:Blocks)(ks:List Int):Blocks:=⟨b.words,b.funcs.map (HE EA ks)⟩
structure All35(b:Blocks):Prop where
  n:b.funcs.length<=6
  r:b.right=true
  e: ∀(i:Nat) (f:BFunc),b.funcs[i]?=some f->PS35 (i:Int) b.words f
theorem All35.of{b:Blocks}(h:Gg b=true)(hw:b.insW):All35 b:=by
 have hS:=Ue h;refine⟨hS.n,hS.r,fun i f hf=>⟨(MZ hS.r).2.2.2 i f hf,hS.g f (List.mem_of_getElem? hf),Nat.le_trans (H6 (List.mem_of_getElem? hf)) hS.c,hw f (List.mem_of_getElem? hf)⟩⟩
theorem Z1{b:Blocks}{ks:List Int}{i:Nat}{g:BFunc}(h:(Jr b ks).funcs[i]?=some g): ∃f,b.funcs[i]?=some f/\g=HE EA ks f:=by
 grind[Jr,HE,EA]
theorem W9{b:Blocks}(h1:0<=b.words)(h2:b.words<=1048576)(h3:b.funcs≠[])(h4: ∀(i:Nat) (f:BFunc),b.funcs[i]?=some f->f.one (i:Int) b.words=true):b.right=true:=by
 grind[KK,List.all_eq_true,List.getElem?_eq_some_iff,Ae,FF]
theorem All35.opt{b:Blocks}(h:All35 b)(ks:List Int):All35 (Jr b ks):=by
 obtain⟨h1,h2,h3,h4⟩:=MZ h.r;have he: ∀(i:Nat) (g:BFunc),(Jr b ks).funcs[i]?=some g->PS35 (i:Int) b.words g:=fun i g hg=>by
  obtain⟨f,hf,rfl⟩:=Z1 hg;exact(Tq ks f (h.e i f hf)).1
 refine⟨by show(b.funcs.map _).length<=6;rw[List.length_map];exact h.n,W9 (b:=Jr b ks) h1 h2 (fun e=>h3 (List.map_eq_nil_iff.1 e)) fun i g hg=>(he i g hg).one,he⟩
theorem Y8{l:List Nat}{q:Nat}(h: ∀x∈l,x<=q):l.sum<=q*l.length:=by
 induction l with
 | nil=>exact Nat.le_refl _
 | cons x l ih=>
  have h1:=ih fun y hy=>h y (by simp[hy])
  have h2:=h x (by simp);rw[List.sum_cons,List.length_cons,Nat.mul_succ];omega
theorem All35.count{b:Blocks}(h:All35 b):b.count<=1200:=by
 have:=Y8 (l:=b.funcs.map BFunc.count) (q:=200) fun x hx=>by
  obtain⟨f,hf,rfl⟩:=List.mem_map.1 hx;obtain⟨i,hi⟩:=List.getElem?_of_mem hf;exact(h.e i f hi).c
 rw[List.length_map]at this;have h2:=h.n;show(b.funcs.map BFunc.count).sum<=1200;have:200*b.funcs.length<=1200:=by omega
 omega
theorem All35.lim{b:Blocks}(h:All35 b):b.Lim:=⟨Nat.le_trans h.n (by decide),Nat.le_trans h.count (by decide)⟩
set_option maxRecDepth 100000
def fK(fr:List Int)(ks l:List Int)(g:List Int):Prop:=g.length=fr.length/\∀v:Nat,v<fr.length->rget g v=if(v:Int)∈ks/\(v:Int)∉l then(v:Int)else rget fr v
theorem OM{h:Ab}{b:Nat}{o:AObj}(hb:h b=some o):hput (hrm h b) b o=h:=by
 funext x
 by_cases hx:x=b
 . subst hx;rw[Ap,hb]
 . rw[AF _ _ hx,EL _ hx]
theorem aX{h:Ab}{a b:Nat}{o:AObj}(hab:a≠b):hput (hrm h b) a o=hrm (hput h a o) b:=by
 funext x
 by_cases hx:x=a
 . subst hx;rw[Ap,EL _ hab,Ap]
 . rw[AF _ _ hx]
   by_cases hb:x=b
   . subst hb;rw[FY,FY]
   . rw[EL _ hb,EL _ hb,AF _ _ hx]
theorem eI(h:Ab){R:Nat}{fr:List Int}{to:List (Option Nat)}{maps:List (List Int)}(hI:FwI R fr to maps){d:Nat}(hd:d<R):ACall Tryz.prog 78 [.ptr 2 1 0 0,.int .i64 (d:Int)] (FH h R fr to maps) (fun r h'=>r= .tup []/\∃maps',FwI R (Cb d fr) (to.set d none) maps'/\maps'.length=maps.length/\HSub (FH h R (Cb d fr) (to.set d none) maps') h'):=by
 refine ACall.of_body (n:=56) Ah Tryz.func78 rfl rfl ?_
 have hdf:(0:Int)<=(d:Int)/\(d:Int)<fr.length:=by rw[hI.lenF];omega
 obtain⟨s,hs⟩: ∃s:Nat,rget fr d=s:=⟨(rget fr d).toNat,by have:=(hI.ran d hd).1;omega⟩
 have hsR:s<R:=by have:=(hI.ran d hd).2;omega
 refine wk 1 ?_;refine AGo.join (γ:=List (List Int)) (fun m1=>⟨56,Aa (Aa A8 0 (.ptr 2 1 0 0)) 1 (.int .i64 (d:Int)),FH h R (AZ fr (d:Int) d) to m1⟩) (fun m1=>FwI R (AZ fr (d:Int) d) to m1/\m1.length=maps.length) ?_ ?_
 .
  refine wk 7 ?_;refine aq 11 (Ac Ah rfl rfl rfl rfl rfl rfl rfl (by rw[BX,hI.lenF]) rfl hdf.1 (by omega)) ?_;refine aq 12 (AA Ah rfl rfl rfl (.ptr _ _ _ _ _ _ _ _ rfl (by rw[BX,hI.lenF]) (Kj hdf)) rfl) ?_;refine wk 8 ?_;refine asp 15 (fun hb1=>?_) fun hb1=>?_
  .
   have hne : s ≠ d := by rw[hs]at hb1;have:(s:Int)≠d:=by simpa using hb1
                          omega
   obtain⟨j,ks,k1,k2,k3⟩:=hI.off hd hs hne
   have hjl:j<maps.length:=(List.getElem?_eq_some_iff.1 k2).1
   refine wk 8 ?_;refine aq 21 (Ac Ah rfl rfl rfl rfl rfl rfl rfl (by rw[List.length_map,hI.lenT]) rfl (by rw[hs];omega) (by rw[hs];omega)) ?_;refine aq 22 (AA Ah rfl rfl rfl (.ptr _ _ _ _ _ _ _ _ rfl (by rw[List.length_map,hI.lenT]) (by rw[hs];exact H9 k1)) rfl) ?_;refine wk 1 ?_;refine AOps.w rfl rfl (Nl Ah rfl rfl rfl rfl (by rw[Ip,Hn k2]) rfl rfl rfl rfl) ?_;refine wk 1 ?_
   rw[S1]
   show AGo _ _ ⟨_,_,hput (FH h R fr to maps) (j+16) _⟩ _
   rw[Vd _ hjl]
   refine wk 7 ?_;refine aq 30 (Ac Ah rfl rfl rfl rfl rfl rfl rfl (by rw[BX,hI.lenF]) rfl hdf.1 (by omega)) ?_;refine AOps.w rfl rfl (o_store Ah rfl rfl rfl rfl rfl rfl (by rw[BX,hI.lenF]) (Kj hdf) rfl (by decide) rfl (by intro h;rfl)) ?_;refine wk 1 ?_;refine⟨_,Sub.mk' Cw ?_,k3,by simp⟩
   show HSub _ (hput (FH h R fr to (maps.set j (ks.erase (d:Int)))) 3 (.row true 1 ((FV fr).set (0+((d:Nat):Int).toNat) [.int .i64 (d:Int)])))
   rw[IU,Mn]
   exact HSub.refl _
  have he : s = d := by rw[hs]at hb1;have: ¬((s:Int)≠d):=by simpa using hb1
                        omega
  subst he
  refine wk 2 ?_
  have hoff:=hI.off0 hd hs
  refine⟨maps,Sub.mk' Cw (by rw[hoff];exact HSub.refl _),by rw[hoff];exact hI,rfl⟩
 rintro m1 ⟨hI1,hm1⟩
 have hd1:rget (AZ fr (d:Int) d) d=d:=by rw[EE (by rw[hI.lenF];exact hd),if_pos rfl]
 have hfin:=hI1.clear hd hd1
 rw[KM hI hd]at hfin
 obtain⟨o,ho⟩:=hI1.to_of hd
 refine wk 1 ?_
 have hd3:(0:Int)<=(d:Int)/\(d:Int)<(AZ fr (d:Int) d).length:=by rw[hI1.lenF];omega
 refine AGo.join (γ:=Unit) (fun _=>⟨56,Aa (Aa A8 0 (.ptr 2 1 0 0)) 1 (.int .i64 (d:Int)),FH h R (Cb d fr) to m1⟩) (fun _=>True) ?_ ?_
 .
  cases o with
  | none=>
   have hrs:Cb d fr=AZ fr (d:Int) d:=by
    rw[<-KM hI hd]
    exact JR (C5 _ _) fun v hv=>by
     rw[C5]at hv
     rw[C6 hv]
     by_cases e:rget (AZ fr (d:Int) d) v=d
     . have:=hI1.nn d ho v (by rw[<-hI1.lenF];exact hv) e
       subst this;rw[hd1];simp
     . have hvd:v≠d:=fun e2=>e (by rw[e2];exact hd1)
       rw[show((v:Int)==d)=false from beq_eq_false_iff_ne.2 (by omega),show(rget (AZ fr (d:Int) d) v==(d:Int))=false from beq_eq_false_iff_ne.2 e];rfl
   refine Vh Ah (n:=56) (e:=Aa (Aa (Aa A8 0 (.ptr 2 1 0 0)) 1 (.int .i64 (d:Int))) 37 (.val (.map none))) (h:=FH h R (AZ fr (d:Int) d) to m1) 7 rfl ?_ ⟨rfl,rfl,rfl⟩ rfl rfl rfl ⟨rfl,rfl,rfl⟩ ⟨rfl,rfl,rfl⟩ (by decide) ⟨rfl,rfl,rfl⟩ ?_
   .
    exact jC
   . exact⟨(),Sub.mk' Cw (by rw[hrs];exact HSub.refl _),trivial⟩
  | some j=>
   obtain⟨ks,k1,k2,k3⟩:=hI1.sm d j ho
   have hj16:3≠j+16:=by omega
   have hbk: ∀g,fK (AZ fr (d:Int) d) ks [] g->g=Cb d fr:=fun g ⟨g1,g2⟩=>by
    rw[<-KM hI hd]
    refine JR (by rw[g1,C5]) fun v hv=>?_
    rw[g1]at hv
    rw[g2 v hv,C6 hv]
    have hvR:v<R:=by rw[<-hI1.lenF];exact hv
    by_cases e:rget (AZ fr (d:Int) d) v=d
    . by_cases e2:v=d
      . subst e2
        rw[if_neg (fun h=>((k3 v).1 h.1).2.2.1 rfl)];simp[hd1]
      . rw[if_pos ⟨(k3 v).2 ⟨by omega,by omega,by omega,e⟩,by simp⟩];simp[e]
    . have hvd:v≠d:=fun e2=>e (by rw[e2];exact hd1)
      rw[if_neg (fun h=>e ((k3 v).1 h.1).2.2.2),show((v:Int)==d)=false from beq_eq_false_iff_ne.2 (by omega),show(rget (AZ fr (d:Int) d) v==(d:Int))=false from beq_eq_false_iff_ne.2 e];rfl
   refine Vi Ah (K:=.i64) (γ:=List Int) (S:=fun rb g=>⟨56,Aa (Aa (Aa A8 0 (.ptr 2 1 0 0)) 1 (.int .i64 (d:Int))) 38 (.val (.pointer (some ⟨rb,0,none⟩))),hrm (FH h R g to m1) (j+16)⟩) (J:=fun l g=>fK (AZ fr (d:Int) d) ks l g/\∀v∈l,v∈ks/\l.Nodup) (m:=RB ks) (b:=j+16)
     (e:=Aa (Aa (Aa A8 0 (.ptr 2 1 0 0)) 1 (.int .i64 (d:Int))) 37 (.map (j+16))) (h:=FH h R (AZ fr (d:Int) d) to m1) (AZ fr (d:Int) d) 7 rfl ?_ ⟨rfl,rfl,rfl⟩ rfl rfl rfl (by rw[Ip,Hn k1]) ⟨rfl,rfl,rfl⟩ ⟨rfl,rfl,rfl⟩ ⟨rfl,rfl,rfl⟩ ⟨rfl,rfl,rfl⟩ ⟨rfl,rfl,rfl⟩ (by decide) (by decide) (by decide) (fun _ _=>⟨rfl,rfl,rfl,rfl,rfl,rfl,rfl⟩) ?_ (fun _=>Sub.mk' Cw (HSub.refl _)) ?_ ?_
   .
    exact jC
   . rw[ZR]
     exact⟨⟨rfl,fun v hv=>by rw[if_neg (fun h=>h.2 h.1)]⟩,fun v hv=>⟨hv,k2⟩⟩
   .
    rintro rb l1 z l2 g ⟨⟨g1,g2⟩,g3⟩
    have hz:=g3 z (by simp)
    obtain⟨z0,z1,z2,z3⟩:=(k3 z).1 hz.1
    have hzg:(0:Int)<=z/\z<g.length:=by rw[g1,hI1.lenF];omega
    refine wk 7 ?_;refine aq 49 (Ac Ah rfl rfl rfl rfl rfl rfl rfl (by rw[BX,g1,hI1.lenF]) rfl z0 (by omega)) ?_;refine AOps.w rfl rfl (o_store Ah rfl rfl rfl rfl rfl rfl (by rw[BX,g1,hI1.lenF]) (Kj hzg) rfl (by decide) rfl (by intro h;rfl)) ?_;refine wk 1 ?_;refine⟨rfl,AZ g z z,⟨⟨by rw[CT,g1],fun v hv=>?_⟩,fun v hv=>⟨(g3 v ((List.Sublist.append_left (List.sublist_cons_self _ _) _).subset hv)).1,?_⟩⟩,Sub.mk' Cw ?_⟩
    . obtain⟨u,rfl⟩: ∃u:Nat,z=u:=⟨z.toNat,by omega⟩
      rw[EE (by omega)]
      have hnd:=hz.2
      rw[List.nodup_append]at hnd
      have hnd2:=List.nodup_cons.1 hnd.2.1
      by_cases e:v=u
      . subst e
        rw [if_pos rfl, if_pos ⟨hz.1, fun h => by rcases List.mem_append.1 h with h | h
                                                  . exact hnd.2.2 _ h _ (by simp) rfl
                                                  . exact hnd2.1 h⟩]
      . rw[if_neg e,g2 v hv]
        have hm:(v:Int)∈l1++(u:Int)::l2↔(v:Int)∈l1++l2:=by simp[show(v:Int)≠u from by omega]
        simp only[hm]
    . have hnd:=hz.2
      exact hnd.sublist (List.Sublist.append_left (List.sublist_cons_self _ _) _)
    . show HSub _ (hput (hrm (FH h R g to m1) (j+16)) 3 (.row true 1 ((FV g).set (0+z.toNat) [.int .i64 z])))
      rw[IU,aX hj16,Mn]
      exact HSub.refl _
   . rintro rb g ⟨hg,_⟩
     refine⟨(),Sub.mk' Cw ?_,trivial⟩
     rw[OM (by rw[Ip,Hn k1]),hbk g hg]
     exact HSub.refl _
 intro _ _
 refine wk 6 ?_;refine aq 55 (Ac Ah rfl rfl rfl rfl rfl rfl rfl (by rw[List.length_map,hI.lenT]) rfl hdf.1 (by omega)) ?_;refine AOps.w rfl rfl (o_store Ah rfl rfl rfl rfl rfl rfl (by rw[List.length_map,hI.lenT]) (H9 ho) rfl (by decide) rfl (by intro h;cases h)) ?_;refine wk 1 ?_;refine⟨[],trivial,rfl,m1,hfin,hm1,?_⟩
 have hsp:DZ (LY o) 0 [AV.val (.map none)]=LY none:=by cases o<;>rfl
 show HSub _ (hput (FH h R (Cb d fr) to m1) 4 (.row false 1 ((to.map LY).set (0+((d:Nat):Int).toNat) (DZ (LY o) 0 [AV.val (.map none)]))))
 rw[hsp,NM,fL]
 exact HSub.refl _
end Go.Proofs.YtbbfelelocccmaaGreat.Sv
namespace Go.Proofs.YtbbfelelocccmaaGreat.Sv
open Go
set_option maxRecDepth 100000
theorem UV(h:Ab){R:Nat}{fr:List Int}{to:List (Option Nat)}{maps:List (List Int)}(hI:FwI R fr to maps){d a:Nat}(hd:d<R)(ha:a<R)(hne:a≠d)(hs:rget fr d=d)(hn:to[d]?=some none)(hra:rget fr a=a):
 ACall Tryz.prog 79 [.ptr 2 1 0 0,.int .i64 (d:Int),.int .i64 (a:Int)] (FH h R fr to maps) (fun r h'=>r= .tup []/\∃to' maps',FwI R (AZ fr (d:Int) a) to' maps'/\HSub (FH h R (AZ fr (d:Int) a) to' maps') h'):=by
 refine ACall.of_body (n:=36) Ah Tryz.func79 rfl rfl ?_;have hdf:(0:Int)<=(d:Int)/\(d:Int)<fr.length:=by rw[hI.lenF];omega
 obtain⟨o,ho⟩:=hI.to_of ha;refine wk 8 ?_;refine aq 12 (Ac Ah rfl rfl rfl rfl rfl rfl rfl (by rw[BX,hI.lenF]) rfl hdf.1 (by omega)) ?_;refine AOps.w rfl rfl (o_store Ah rfl rfl rfl rfl rfl rfl (by rw[BX,hI.lenF]) (Kj hdf) rfl (by decide) rfl (by intro h;rfl)) ?_;refine wk 1 ?_;refine AGo.sub (s':=⟨36,Aa (Aa (Aa A8 0 (.ptr 2 1 0 0)) 1 (.int .i64 (d:Int))) 2 (.int .i64 (a:Int)),FH h R (AZ fr (d:Int) a) to maps⟩) (Sub.mk' Cw ?_) ?_
 . show HSub _ (hput (FH h R fr to maps) 3 (.row true 1 ((FV fr).set (0+((d:Nat):Int).toNat) [.int .i64 (a:Int)])));rw[IU,Mn];exact HSub.refl _
 have hidx:(0:Int)<=(a:Int)/\(a:Int)<R:=by omega
 rcases hI.copied hd ha hne hs hn hra with⟨j,ks,k1,k2,k3,k4⟩ |⟨k1,k4⟩
 .
  have hjl:j<maps.length:=(List.getElem?_eq_some_iff.1 k2).1;refine wk 8 ?_;refine aq 18 (Ac Ah rfl rfl rfl rfl rfl rfl rfl (by rw[List.length_map,hI.lenT]) rfl hidx.1 (by omega)) ?_;refine aq 19 (AA Ah rfl rfl rfl (.ptr _ _ _ _ _ _ _ _ rfl (by rw[List.length_map,hI.lenT]) (H9 k1)) rfl) ?_;refine aq 20 (Sl Ah (r:=false) (.inr ⟨⟨j+16,rfl⟩,rfl⟩) rfl rfl) ?_;refine wk 9 ?_;refine aq 33 (Ac Ah rfl rfl rfl rfl rfl rfl rfl (by rw[List.length_map,hI.lenT]) rfl hidx.1 (by omega)) ?_;refine aq 34 (AA Ah rfl rfl rfl (.ptr _ _ _ _ _ _ _ _ rfl (by rw[List.length_map,hI.lenT]) (H9 k1)) rfl) ?_;refine wk 1 ?_;refine AOps.w rfl rfl (o_mapUpdate Ah rfl rfl rfl rfl rfl rfl (by rw[Ip,Hn k2]) rfl rfl rfl rfl) ?_;refine wk 1 ?_;refine⟨[],trivial,rfl,to,_,k4,?_⟩;show HSub _ (hput (FH h R (AZ fr (d:Int) a) to maps) (j+16) (.map (kvs .i64 (I1 (d:Int) (.bool true) (RB ks)))));rw[NE k3,Vd _ hjl]
  exact HSub.refl _
 refine wk 8 ?_;refine aq 18 (Ac Ah rfl rfl rfl rfl rfl rfl rfl (by rw[List.length_map,hI.lenT]) rfl hidx.1 (by omega)) ?_;refine aq 19 (AA Ah rfl rfl rfl (.ptr _ _ _ _ _ _ _ _ rfl (by rw[List.length_map,hI.lenT]) (H9 k1)) rfl) ?_;refine aq 20 (Sl Ah (r:=true) (.inl ⟨rfl,rfl⟩) rfl rfl) ?_;refine wk 8 ?_;refine ax 26 (II .i64 (maps.length+16) rfl (by rw[Ip,X4])) ?_;refine aq 27 (Ac (p:=false) (sz:=1) (es:=to.map LY) Ah rfl rfl rfl rfl rfl rfl rfl (by rw[List.length_map,hI.lenT]) rfl hidx.1 (by omega)) ?_;refine AOps.w rfl rfl (o_store (p:=false) (sz:=1) (es:=to.map LY) Ah rfl rfl rfl rfl rfl rfl (by rw[List.length_map,hI.lenT]) (H9 k1) rfl (by decide) rfl (by intro h;cases h)) ?_;refine wk 1 ?_;refine AGo.sub (s':=⟨36,Aa (Aa (Aa A8 0 (.ptr 2 1 0 0)) 1 (.int .i64 (d:Int))) 2 (.int .i64 (a:Int)),FH h R (AZ fr (d:Int) a) (to.set a (some maps.length)) (maps++[[]])⟩) (Sub.mk' Cw ?_) ?_
 . show HSub _ (hput (hput (FH h R (AZ fr (d:Int) a) to maps) (maps.length+16) (.map (kvs .i64 (RB [])))) 4 (.row false 1 ((to.map LY).set (0+((a:Nat):Int).toNat) (LY (some maps.length)))));rw[NM,i9,fL];exact HSub.refl _
 have hto:(to.set a (some maps.length))[a]?=some (some maps.length):=List.getElem?_set_self (by rw[hI.lenT];exact ha);have hmp:(maps++[[]])[maps.length]?=some ([]:List Int):=by rw[List.getElem?_append_right (Nat.le_refl _)];simp
 refine wk 6 ?_;refine aq 33 (Ac Ah rfl rfl rfl rfl rfl rfl rfl (by rw[List.length_map,List.length_set,hI.lenT]) rfl hidx.1 (by omega)) ?_;refine aq 34 (AA Ah rfl rfl rfl (.ptr _ _ _ _ _ _ _ _ rfl (by rw[List.length_map,List.length_set,hI.lenT]) (H9 hto)) rfl) ?_;refine wk 1 ?_;refine AOps.w rfl rfl (o_mapUpdate Ah rfl rfl rfl rfl rfl rfl (by rw[Ip,Hn hmp]) rfl rfl rfl rfl) ?_;refine wk 1 ?_;refine⟨[],trivial,rfl,_,_,k4,?_⟩;show HSub _ (hput (FH h R (AZ fr (d:Int) a) (to.set a (some maps.length)) (maps++[[]])) (maps.length+16) (.map (kvs .i64 (I1 (d:Int) (.bool true) (RB [])))));rw[NE (by simp),Vd _ (by simp)];have h9:(maps++[([]:List Int)]).set maps.length ([]++[(d:Int)])=maps++[[(d:Int)]]:=by simp
 rw[h9];exact HSub.refl _
end Go.Proofs.YtbbfelelocccmaaGreat.Sv
namespace Go.Proofs.YtbbfelelocccmaaGreat.Sv
open Go
theorem U6(op:Int):APure Tryz.prog 64 [.int .i64 op] (fun r=>r= .bool (setsOp op)):=by
 refine APure.of_body (n:=11) Ah Tryz.func64 rfl rfl ?_;refine wk 16 ?_;refine asp 4 (fun hb1=>?_) fun hb1=>?_
 .
  refine wk 7 ?_;exact TX
 refine wk 6 ?_;refine asp 4 (fun hb2=>?_) fun hb2=>?_
 .
  refine wk 7 ?_;exact TX
 refine wk 6 ?_;refine asp 4 (fun hb3=>?_) fun hb3=>?_
 .
  refine wk 7 ?_;exact TX
 refine wk 6 ?_;refine asp 4 (fun hb4=>?_) fun hb4=>?_
 .
  refine wk 7 ?_;exact TX
 refine wk 6 ?_;refine asp 4 (fun hb5=>?_) fun hb5=>?_
 .
  refine wk 7 ?_;exact TX
 refine wk 5 ?_;refine asp 4 (fun hb6=>?_) fun hb6=>?_
 .
  refine wk 5 ?_;exact TX
 refine wk 6 ?_;exact TX
theorem Yq(op:Int):APure Tryz.prog 65 [.int .i64 op] (fun r=>r= .int .i64 (Uk op)):=by
 refine APure.of_body (n:=12) Ah Tryz.func65 rfl rfl ?_;refine wk 16 ?_;refine asp 4 (fun hb1=>?_) fun hb1=>?_
 .
  refine wk 7 ?_;exact T0
 refine wk 6 ?_;refine asp 4 (fun hb2=>?_) fun hb2=>?_
 .
  refine wk 7 ?_;exact T0
 refine wk 6 ?_;refine asp 4 (fun hb3=>?_) fun hb3=>?_
 .
  refine wk 7 ?_;exact T0
 refine wk 5 ?_;refine asp 4 (fun hb4=>?_) fun hb4=>?_
 .
  refine wk 5 ?_;exact T0
 refine wk 7 ?_;refine asp 9 (fun hb5=>?_) fun hb5=>?_
 .
  refine wk 7 ?_;exact T0
 refine wk 5 ?_;refine asp 9 (fun hb6=>?_) fun hb6=>?_
 .
  refine wk 5 ?_;exact T0
 refine wk 6 ?_;exact T0
theorem Od(t:Tac):APure Tryz.prog 81 [.agg t.cells] (fun r=>r=AM t.uses):=by
 refine APure.of_body (n:=18) Ah Tryz.func81 rfl rfl ?_;refine LN ?_;refine ax 1 (Fx 8 0) ?_;refine wk 7 ?_;refine ax 5 (DX Tryz.func65 (Yq _)) ?_;refine wk 7 ?_;refine asp 6 (fun hb1=>?_) fun hb1=>?_
 .
  refine wk 5 ?_;refine ax 10 (Cq Ah rfl rfl rfl rfl rfl rfl (by decide) rfl rfl rfl rfl rfl rfl) ?_;refine wk 2 ?_;exact f8
 refine wk 6 ?_;refine asp 11 (fun hb2=>?_) fun hb2=>?_
 .
  refine wk 7 ?_;refine ax 17 (Cq Ah rfl rfl rfl rfl rfl rfl (by decide) rfl rfl rfl rfl rfl rfl) ?_;refine wk 2 ?_;exact f8
 refine wk 6 ?_;refine AGo.ghost (.empty 2 rfl) ?_;exact f8
theorem Kr(t:Tac):APure Tryz.prog 77 [.agg t.cells] (fun r=>r= .int .i64 t.sets):=by
 refine APure.of_body (n:=8) Ah Tryz.func77 rfl rfl ?_;refine LN ?_;refine ax 1 (Fx 8 0) ?_;refine wk 7 ?_;refine ax 5 (DX Tryz.func64 (U6 _)) ?_;refine an ?_;refine asp 5 (fun hb1=>?_) fun hb1=>?_
 .
  refine wk 7 ?_;refine Ge ⟨[_],⟨rfl,trivial⟩,?_,rfl⟩;show AV.int .i64 _=AV.int .i64 _;congr 1;simp_all[Tac.sets]
 refine wk 6 ?_;refine Ge ⟨[_],⟨rfl,trivial⟩,?_,rfl⟩;show AV.int .i64 _=AV.int .i64 _;congr 1;simp_all[Tac.sets]
set_option maxRecDepth 100000
def Gm(R q:Nat):List Int:=(List.range R).map fun v=>if v<q then(v:Int)else 0
theorem La(R q:Nat):(Gm R q).length=R:=by simp[Gm]
theorem UU{R q:Nat}(h:q<R):AZ (Gm R q) (q:Int) q=Gm R (q+1):=by
 unfold AZ Gm;apply List.ext_getElem?;intro v;rw[show((q:Nat):Int).toNat=q from rfl,List.getElem?_set,List.getElem?_map,List.getElem?_map]
 by_cases e:q=v
 . subst e;rw[if_pos rfl];simp[h]
 . rw[if_neg e]
   by_cases hv:v<R
   . simp[hv]
     by_cases h1:v<q
     . rw[if_pos h1,if_pos (by omega)]
     . rw[if_neg h1,if_neg (by omega)]
   . simp[hv]
theorem X0(R:Nat):Gm R R=Ke R:=by
 unfold Gm Ke;apply List.map_congr_left;intro v hv;rw[if_pos (List.mem_range.1 hv)]
theorem bx{R:Nat}{l:List Tac}{i:Nat}{t:Tac}(hx:l[i]?=some t):(De R l i)[0+((i:Nat):Int).toNat]?=some [.int .i64 0,.int .i64 0,.int .i64 0,.int .i64 0,.int .i64 0,.int .i64 0,.int .i64 0,.int .u32 0]:=by
 have hi:i<l.length:=(List.getElem?_eq_some_iff.1 hx).1;rw[Nat.zero_add,show((i:Nat):Int).toNat=i from rfl];unfold De;rw[List.getElem?_append_right (by rw[List.length_map,FZ,List.length_take];omega),List.length_map,FZ,List.length_take,show i-min i l.length=0 by omega,List.getElem?_replicate,if_pos (by omega)]
theorem Ta(k:Nat->Bool)(l:List Tac):(DY l).avoid k=true:=by
 rfl
theorem Lh(b:Block):(AObj.row false 5 [b.cells]).avoid k6=true:=by
 rfl
theorem Ig(R:Nat)(l:List Tac)(i:Nat):(AObj.row true 8 (De R l i)).avoid k6=true:=by
 rfl
theorem de{t:Tac}(h:decide (t.sets>=0)=true):setsOp t.op=true/\t.sets=t.d:=by
 unfold Tac.sets at h |-
 cases e:setsOp t.op with
 | true=>exact⟨rfl,rfl⟩
 | false=>rw[e]at h;cases h
theorem Rb(b:Block)(R:Nat)(hR:R<=4000)(hlen:b.ins.length<=1000000000)(hins: ∀t∈b.ins,cj R t)(hv:b.fin=2->0<=b.v/\b.v<R):APure Tryz.prog 57 [.agg b.cells,.int .i64 (R:Int)] (fun r=>r= .agg (b.forward R).cells):=by
 refine APure.of_body (n:=108) Ah Tryz.func57 rfl rfl ?_;refine wk 2 ?_;refine ax 2 (Fx 5 0) ?_;refine ax 4 (Ew Ah 1) ?_;refine wk 4 ?_;refine dx 12 (Az Ah (n:=R) (m:=R) 3 true rfl rfl rfl rfl rfl rfl rfl rfl rfl rfl (Nat.zero_lt_succ _) rfl (Nat.le_refl _) (by show 8*R<=_;omega) (by simp only[maxLen];omega)) ?_;refine wk 1 ?_;refine dx 14 (Az Ah (n:=R) (m:=R) 4 false rfl rfl rfl rfl rfl rfl rfl rfl rfl rfl (Nat.zero_lt_succ _) rfl (Nat.le_refl _) (by show 8*R<=_;omega) (by simp only[maxLen];omega)) ?_;refine wk 1 ?_;refine dx 5 (Ew Ah 2) ?_;refine wk 2 ?_;refine AGo.sub (s':=⟨108,Aa (Aa (Aa (Aa A8 1 (.int .i64 (R:Int))) 2 (.ptr 0 1 0 0)) 4 (.ptr 1 1 0 0)) 5 (.ptr 2 1 0 0),FH (WB b .free .free) R (Gm R 0) (List.replicate R none) []⟩) (Sub.mk' Cw (Ll rfl rfl rfl (congrArg (fun es=>some (AObj.row true 1 es)) (by simp[FV,Gm,List.map_const'])) (congrArg (fun es=>some (AObj.row false 1 es)) (by simp[LY])) rfl rfl (fun j=>rfl))) ?_
 refine wk 40 ?_;refine AGo.loopI (γ:=Nat) (fun q=>⟨108,Aa (Aa (Aa (Aa (Aa (Aa (Aa A8 1 (.int .i64 (R:Int))) 2 (.ptr 0 1 0 0)) 4 (.ptr 1 1 0 0)) 5 (.ptr 2 1 0 0)) 17 (.ref 3 R 0 R)) 18 (.int .i64 (R:Int))) 19 (.int .i64 (q:Int)),FH (WB b .free .free) R (Gm R q) (List.replicate R none) []⟩) (fun q=>q<=R) (fun q=>R-q) 0 (Sub.mk' Cw (HSub.refl _)) (Nat.zero_le _) ?_
 intro q hq
 refine wk 40 ?_;refine asp 20 (fun hb1=>?_) fun hb1=>?_
 .
  have hqR:q<R:=by have:=hb1;simp at this;exact this
  have hqz:(0:Int)<=(q:Int)/\(q:Int)<(Gm R q).length:=by rw[La];omega
  refine wk 40 ?_;refine aq 26 (Ac Ah rfl rfl rfl rfl rfl rfl rfl (by rw[BX,La]) rfl hqz.1 (by omega)) ?_;refine AOps.w rfl rfl (o_store Ah rfl rfl rfl rfl rfl rfl (by rw[BX,La]) (Kj hqz) rfl (by decide) rfl (by intro h;rfl)) ?_;refine wk 40 ?_;refine⟨q+1,Sub.mk' (by repeat(first | exact ESub.new _ | refine ESub.put ?_ (by first | rfl | exact congrArg (fun x=>some (AV.int .i64 x)) (Ir hqR (by simp only[maxLen];omega))))) ?_,hqR,by omega⟩
  show HSub _ (hput (FH (WB b .free .free) R (Gm R q) (List.replicate R none) []) 3 (.row true 1 ((FV (Gm R q)).set (0+((q:Nat):Int).toNat) [.int .i64 (q:Int)])))
  rw[IU,UU hqR,Mn]
  exact HSub.refl _
 have hqR:q=R:=by have:=hb1;simp at this;omega
 refine wk 40 ?_;refine ax 31 (Az Ah (n:=b.ins.length) (m:=b.ins.length) 5 true rfl rfl rfl (congrArg (fun(m:Nat)=>(m:Int)) (List.length_map _)) (congrArg (fun(m:Nat)=>(m:Int)) (List.length_map _)) rfl rfl rfl rfl rfl (Nat.zero_lt_succ _) rfl (Nat.le_refl _) (by show 64*b.ins.length<=_;omega) (by simp only[maxLen];omega)) ?_;refine wk 40 ?_
 rw[hqR]
 refine A6 (γ:=Nat×List Int×List (Option Nat)×List (List Int)) k6 (fun g=>⟨108,Aa (Aa (Aa (Aa (Aa (Aa (Aa A8 2 (.ptr 0 1 0 0)) 4 (.ptr 1 1 0 0)) 5 (.ptr 2 1 0 0)) 7 (.ref 5 b.ins.length 0 b.ins.length)) 33 (DY b.ins)) 34 (.int .i64 (b.ins.length:Int))) 35 (.int .i64 (g.1:Int)),FH (WB b (.row true 8 (De R b.ins g.1)) .free) R g.2.1 g.2.2.1 g.2.2.2⟩) (fun g=>qO R b.ins g.1 g.2.1 g.2.2.1 g.2.2.2) (fun g=>b.ins.length-g.1) (0,Ke R,List.replicate R none,[]) (Sub.mk' (by repeat(first | exact ESub.new _ | refine ESub.put ?_ (by first | rfl | exact congrArg (fun(m:Nat)=>some (AV.int .i64 (m:Int))) (List.length_map _)))) ?_) ⟨Nat.zero_le _,rfl,iL R⟩ (fun g x hx=>?_) ?_
 . exact Ll rfl rfl rfl (by show some (AObj.row true 1 (FV (Gm R R)))=some (AObj.row true 1 (FV (Ke R)));rw[X0]) rfl (by show some (AObj.row true 8 (List.replicate b.ins.length ty91.zero))=some (AObj.row true 8 (De R b.ins 0));rw[UZ]) rfl (fun _=>rfl)
 . have:x=6:=by unfold k6 at hx;exact Nat.eq_of_beq_eq_true (by simpa using hx)
   subst this;rfl
 rintro⟨i,fr,to,maps⟩ hF
 dsimp only at hF |-
 refine wk 40 ?_;refine asp 36 (fun hb2=>?_) fun hb2=>?_
 .
  have hil:i<b.ins.length:=by have:=hb2;simp at this;exact this
  obtain⟨t,ht⟩:=Ae hil
  have hT:=hins t (List.mem_of_getElem? ht)
  have hI:=hF.inv
  have gg: ∀{z:Int},0<=z/\z<R->(0:Int)<=z/\z<fr.length:=fun h=>by rw[hI.lenF];exact h
  refine wk 40 ?_;refine aq 38 (JF Ah (AC ht)) ?_;refine wk 1 ?_;refine ax 9 (Ew Ah 6) ?_;refine wk 9 ?_;refine AGo.sub (s':=⟨108,Aa (Aa (Aa (Aa (Aa (Aa (Aa (Aa (Aa (Aa A8 2 (.ptr 0 1 0 0)) 4 (.ptr 1 1 0 0)) 5 (.ptr 2 1 0 0)) 7 (.ref 5 b.ins.length 0 b.ins.length)) 33 (DY b.ins)) 34 (.int .i64 (b.ins.length:Int))) 35 (.int .i64 (i:Int))) 8 (.int .i64 (i:Int))) 9 (.ptr 6 1 0 0)) 41 (.int .i64 t.op),FH (WB b (.row true 8 (De R b.ins i)) (.row false 8 [t.cells])) R fr to maps⟩) (Sub.mk' Cw (Ll rfl rfl rfl rfl rfl rfl rfl (fun _=>rfl))) ?_;refine AGo.join (γ:=Unit) (fun _=>⟨108,(Aa (Aa (Aa (Aa (Aa (Aa (Aa (Aa (Aa A8 2 (.ptr 0 1 0 0)) 4 (.ptr 1 1 0 0)) 5 (.ptr 2 1 0 0)) 7 (.ref 5 b.ins.length 0 b.ins.length)) 33 (DY b.ins)) 34 (.int .i64 (b.ins.length:Int))) 35 (.int .i64 (i:Int))) 8 (.int .i64 (i:Int))) 9 (.ptr 6 1 0 0)),FH (WB b (.row true 8 (De R b.ins i)) (.row false 8 [(subT fr t).cells])) R fr to maps⟩) (fun _=>True) ?_ ?_
  .
   refine wk 2 ?_;refine AGo.join (γ:=Unit) (fun _=>⟨108,Aa (Aa (Aa (Aa (Aa (Aa (Aa (Aa (Aa (Aa (Aa A8 2 (.ptr 0 1 0 0)) 4 (.ptr 1 1 0 0)) 5 (.ptr 2 1 0 0)) 7 (.ref 5 b.ins.length 0 b.ins.length)) 33 (DY b.ins)) 34 (.int .i64 (b.ins.length:Int))) 35 (.int .i64 (i:Int))) 8 (.int .i64 (i:Int))) 9 (.ptr 6 1 0 0)) 41 (.int .i64 t.op)) 42 (.bool (use1 t.op)),FH (WB b (.row true 8 (De R b.ins i)) (.row false 8 [t.cells])) R fr to maps⟩) (fun _=>True) ?_ ?_
   .
    refine wk 40 ?_;refine asp 42 (fun hc1=>?_) fun hc1=>?_
    . refine wk 40 ?_
      have hu:use1 t.op=true:=by unfold use1;simp at hc1;simp[hc1]
      exact Wz
    refine wk 40 ?_;refine asp 42 (fun hc2=>?_) fun hc2=>?_
    . refine wk 40 ?_
      have hu:use1 t.op=true:=by unfold use1;simp at hc2;simp[hc2]
      exact Wz
    refine wk 40 ?_;refine asp 42 (fun hc3=>?_) fun hc3=>?_
    . refine wk 40 ?_
      have hu:use1 t.op=true:=by unfold use1;simp at hc3;simp[hc3]
      exact Wz
    refine wk 40 ?_
    have hu:use1 t.op=(t.op==9):=by show(t.op==2||(t.op==5||(t.op==6||t.op==9)))=_;rw[show(t.op==2)=false by simpa using hc1,show(t.op==5)=false by simpa using hc2,show(t.op==6)=false by simpa using hc3];rfl
    exact Wz
   intro _ _
   refine asp 42 (fun hu=>?_) fun hu=>?_
   .
    have ha:=hT.u1 hu
    have hs:subT fr t={t with a:=rget fr t.a}:=by unfold subT;rw[hu];rfl
    refine wk 40 ?_;refine aq 51 (Ac Ah rfl rfl rfl rfl rfl rfl rfl (by rw[BX,hI.lenF]) rfl ha.1 ha.2) ?_;refine aq 52 (AA Ah rfl rfl rfl (.ptr _ _ _ _ _ _ _ _ rfl (by rw[BX,hI.lenF]) (Kj (gg ha))) rfl) ?_;exact fp
   refine wk 1 ?_;refine wk 1 ?_;refine AGo.join (γ:=Unit) (fun _=>⟨108,Aa (Aa (Aa (Aa (Aa (Aa (Aa (Aa (Aa (Aa A8 2 (.ptr 0 1 0 0)) 4 (.ptr 1 1 0 0)) 5 (.ptr 2 1 0 0)) 7 (.ref 5 b.ins.length 0 b.ins.length)) 33 (DY b.ins)) 34 (.int .i64 (b.ins.length:Int))) 35 (.int .i64 (i:Int))) 8 (.int .i64 (i:Int))) 9 (.ptr 6 1 0 0)) 54 (.bool (use2 t.op)),FH (WB b (.row true 8 (De R b.ins i)) (.row false 8 [t.cells])) R fr to maps⟩) (fun _=>True) ?_ ?_
   .
    refine wk 40 ?_;refine asp 54 (fun hc1=>?_) fun hc1=>?_
    . refine wk 40 ?_
      have hu:use2 t.op=true:=by unfold use2;simp at hc1;simp[hc1]
      exact Wz
    refine wk 40 ?_
    have hu:use2 t.op=(t.op==7):=by show(t.op==3||t.op==7)=_;rw[show(t.op==3)=false by simpa using hc1];rfl
    exact Wz
   intro _ _
   refine asp 54 (fun hu2=>?_) fun hu2=>?_
   .
    obtain⟨ha,hb⟩:=hT.u2 hu2
    have hs:subT fr t={t with a:=rget fr t.a,b:=rget fr t.b}:=by unfold subT;rw[hu,hu2];rfl
    refine wk 40 ?_;refine dq 61 (Ac Ah rfl rfl rfl rfl rfl rfl rfl (by rw[BX,hI.lenF]) rfl ha.1 ha.2) ?_;refine dq 62 (AA Ah rfl rfl rfl (.ptr _ _ _ _ _ _ _ _ rfl (by rw[BX,hI.lenF]) (Kj (gg ha))) rfl) ?_;refine wk 40 ?_;refine dq 67 (Ac Ah rfl rfl rfl rfl rfl rfl rfl (by rw[BX,hI.lenF]) rfl hb.1 hb.2) ?_;refine dq 68 (AA Ah rfl rfl rfl (.ptr _ _ _ _ _ _ _ _ rfl (by rw[BX,hI.lenF]) (Kj (gg hb))) rfl) ?_;exact fp
   have hs:subT fr t=t:=by unfold subT;rw[hu,hu2];rfl
   refine wk 40 ?_;exact⟨(),Sub.mk' Cw (by rw[hs];exact HSub.refl _),trivial⟩
  intro _ _
  refine wk 40 ?_;refine aq 74 (Ac Ah rfl rfl rfl rfl rfl rfl rfl (IW hF.le).symm rfl (Int.natCast_nonneg _) (by omega)) ?_;refine AOps.w rfl rfl (o_store Ah rfl rfl rfl rfl rfl rfl (IW hF.le).symm (bx ht) rfl (by decide) rfl (by intro h;rfl)) ?_;refine wk 1 ?_
  have hnx:(De R b.ins i).set (0+((i:Nat):Int).toNat) (subT fr t).cells=De R b.ins (i+1):=by have:=U0 (R:=R) ht;rw[hF.pre]at this;exact this
  refine AGo.sub (s':=⟨108,(Aa (Aa (Aa (Aa (Aa (Aa (Aa (Aa (Aa A8 2 (.ptr 0 1 0 0)) 4 (.ptr 1 1 0 0)) 5 (.ptr 2 1 0 0)) 7 (.ref 5 b.ins.length 0 b.ins.length)) 33 (DY b.ins)) 34 (.int .i64 (b.ins.length:Int))) 35 (.int .i64 (i:Int))) 8 (.int .i64 (i:Int))) 9 (.ptr 6 1 0 0)),FH (WB b (.row true 8 (De R b.ins (i+1))) (.row false 8 [(subT fr t).cells])) R fr to maps⟩) (Sub.mk' Cw (Ll rfl rfl rfl rfl rfl (congrArg (fun es=>some (AObj.row true 8 es)) hnx) rfl (fun _=>rfl))) ?_;refine wk 40 ?_;refine ax 76 (DX Tryz.func77 (Kr (subT fr t))) ?_;refine wk 40 ?_
  have hst:=(Qs fr t).2.2
  have hop:=(Qs fr t).1
  refine asp 78 (fun hs1=>?_) fun hs1=>?_
  .
   obtain⟨hsp,hsd'⟩:=de hs1
   have hsd:(subT fr t).sets=t.d:=by rw[hsd',(Qs fr t).2.1]
   have hd:=hT.d (by rw[<-hop];exact hsp)
   obtain⟨d,hdd⟩: ∃d:Nat,t.d=d:=⟨t.d.toNat,by omega⟩
   have hdR:d<R:=by omega
   have hsn:(subT fr t).sets=(d:Int):=by rw[hsd,hdd]
   refine wk 40 ?_
   rw[hsn]
   refine AOps.inn 80 rfl rfl rfl ?_;refine nG rfl Tryz.func78 (by kernel_rfl) rfl rfl ?_;refine(eI (WB b (.row true 8 (De R b.ins (i+1))) (.row false 8 [(subT fr t).cells])) hI hdR).mono ?_
   rintro r h' ⟨rfl,maps',hI',hml,hsub⟩
   refine wk 1 ?_;refine AGo.sub (s':=⟨108,Aa (Aa (Aa (Aa (Aa (Aa (Aa (Aa (Aa (Aa A8 2 (.ptr 0 1 0 0)) 4 (.ptr 1 1 0 0)) 5 (.ptr 2 1 0 0)) 7 (.ref 5 b.ins.length 0 b.ins.length)) 33 (DY b.ins)) 34 (.int .i64 (b.ins.length:Int))) 35 (.int .i64 (i:Int))) 8 (.int .i64 (i:Int))) 9 (.ptr 6 1 0 0)) 10 (.int .i64 (d:Int)),FH (WB b (.row true 8 (De R b.ins (i+1))) (.row false 8 [(subT fr t).cells])) R (Cb (d:Int) fr) (to.set d none) maps'⟩) (Sub.mk' Cw hsub) ?_;refine wk 40 ?_
   have hdf:(d:Int)<fr.length:=by rw[hI.lenF];omega
   refine Ex 84 (fun hc=>?_) fun hc=>?_
   .
    have hu1 : use1 t.op = true := by have:t.op=2:=by {rw[<-hop];simpa using hc}
                                      unfold use1;rw[this];rfl
    have ha:=hT.u1 hu1
    have hsa:(subT fr t).a=rget fr t.a:=by unfold subT;rw[hu1];rfl
    obtain⟨a0,ha0⟩: ∃a0:Nat,t.a=a0:=⟨t.a.toNat,by omega⟩
    have ha1:=hI.ran a0 (by omega)
    obtain⟨a,haa⟩: ∃a:Nat,rget fr t.a=a:=⟨(rget fr t.a).toNat,by rw[ha0];omega⟩
    have haR:a<R:=by rw[ha0]at haa;omega
    have hra:rget fr a=a:=by have:=hI.root a0 (by omega);rw[<-ha0,haa]at this;exact this
    have hsa':(subT fr t).a=(a:Int):=by rw[hsa,haa]
    refine wk 40 ?_;refine asp 89 (fun hc2=>?_) fun hc2=>?_
    .
     have hne : a ≠ d := by rw[hsa']at hc2;have:(a:Int)≠d:=by simpa using hc2
                            omega
     have hn:DE fr (subT fr t)=AZ (Cb (d:Int) fr) (d:Int) a:=by unfold DE;rw[hs1,hsn,hsa',show((subT fr t).op==2)=true from hc,show((a:Int) !=(d:Int))=true from by simp;omega];rfl
     refine wk 40 ?_
     rw[hsa']
     refine AOps.inn 93 rfl rfl rfl ?_;refine nG rfl Tryz.func79 (by kernel_rfl) rfl rfl ?_;refine(UV (WB b (.row true 8 (De R b.ins (i+1))) (.row false 8 [(subT fr t).cells])) hI' hdR haR hne (by rw[C6 (by omega)];simp) (List.getElem?_set_self (by rw[hI.lenT];exact hdR)) (by rw[C6 (by rw[hI.lenF];exact haR),hra];cases ((a:Int)==(d:Int)||(a:Int)==(d:Int))<;>rfl)).mono ?_
     rintro r h2 ⟨rfl,to2,maps2,hI2,hsub2⟩
     refine wk 1 ?_;refine AGo.sub (s':=⟨108,(Aa (Aa (Aa (Aa (Aa (Aa (Aa (Aa (Aa A8 2 (.ptr 0 1 0 0)) 4 (.ptr 1 1 0 0)) 5 (.ptr 2 1 0 0)) 7 (.ref 5 b.ins.length 0 b.ins.length)) 33 (DY b.ins)) 34 (.int .i64 (b.ins.length:Int))) 35 (.int .i64 (i:Int))) 8 (.int .i64 (i:Int))) 9 (.ptr 6 1 0 0)),FH (WB b (.row true 8 (De R b.ins (i+1))) (.row false 8 [(subT fr t).cells])) R (AZ (Cb (d:Int) fr) (d:Int) a) to2 maps2⟩) (Sub.mk' Cw hsub2) ?_;refine wk 40 ?_;exact⟨(i+1,AZ (Cb (d:Int) fr) (d:Int) a,to2,maps2),DropK.mk' gq (Rx (o6:=.free) (Lh b) rfl rfl rfl rfl rfl rfl (Ig _ _ _) (fun _=>rfl)),⟨hil,by rw[KE ht,hF.pre,hn],hI2⟩,by show b.ins.length-(i+1)<b.ins.length-i;omega⟩
    have hn:DE fr (subT fr t)=Cb (d:Int) fr:=by unfold DE;rw[hs1,hsn,show((subT fr t).a !=(d:Int))=false from hc2];cases ((subT fr t).op==2)<;>rfl
    exact jL
   have hn:DE fr (subT fr t)=Cb (d:Int) fr:=by unfold DE;rw[hs1,hsn,show((subT fr t).op==2)=false from hc];rfl
   exact jL
  have hn:DE fr (subT fr t)=fr:=by unfold DE;rw[show decide ((subT fr t).sets>=0)=false from hs1];rfl
  refine wk 40 ?_;exact⟨(i+1,fr,to,maps),DropK.mk' gq (Rx (o6:=.free) (Lh b) rfl rfl rfl rfl rfl rfl (Ig _ _ _) (fun _=>rfl)),⟨hil,by rw[KE ht,hF.pre,hn],hI⟩,by show b.ins.length-(i+1)<b.ins.length-i;omega⟩
 have hin:i=b.ins.length:=by have:=hb2;simp at this;have:=hF.le;omega
 have hfr:(Dq (Ke R) b.ins).2=fr:=by have:=hF.pre;rw[hin,List.take_length]at this;exact this
 have hgg: ∀{z:Int},0<=z/\z<R->(0:Int)<=z/\z<fr.length:=fun h=>by rw[hF.inv.lenF];exact h
 refine wk 2 ?_;refine AGo.ghost (Ghost.freeze 7 5 rfl rfl (IW hF.le).symm) ?_
 rw[List.drop_zero,List.take_of_length_le (Nat.le_of_eq (IW hF.le)),hin,X9]
 refine wk 40 ?_;refine asp 99 (fun hc=>?_) fun hc=>?_
 .
  have hz:=hv (by simpa using hc)
  refine wk 40 ?_;refine aq 104 (Ac Ah rfl rfl rfl rfl rfl rfl rfl (by rw[BX,hF.inv.lenF]) rfl hz.1 hz.2) ?_;refine aq 105 (AA Ah rfl rfl rfl (.ptr _ _ _ _ _ _ _ _ rfl (by rw[BX,hF.inv.lenF]) (Kj (hgg hz))) rfl) ?_;refine wk 40 ?_;refine⟨[_],⟨⟨_,_,_,_,rfl,rfl,.ptr _ _ _ _ _ _ _ _ rfl rfl rfl,rfl⟩,trivial⟩,?_,rfl⟩
  unfold Block.forward
  rw[hfr,show(b.fin==2)=true from hc];rfl
 refine wk 40 ?_;refine⟨[_],⟨⟨_,_,_,_,rfl,rfl,.ptr _ _ _ _ _ _ _ _ rfl rfl rfl,rfl⟩,trivial⟩,?_,rfl⟩
 unfold Block.forward
 rw[hfr,show(b.fin==2)=false from hc];rfl
end Go.Proofs.YtbbfelelocccmaaGreat.Sv
namespace Go.Proofs.YtbbfelelocccmaaGreat.Sv
open Go
set_option maxRecDepth 100000
structure qo(f:BFunc):Prop where
  r0:0<=f.regs
  r1:f.regs<=4000
  n:f.blocks.length<=1048576
  i: ∀x∈f.blocks,x.ins.length<=1048576
  t: ∀x∈f.blocks,∀t∈x.ins,cj f.regs.toNat t
  v: ∀x∈f.blocks,x.fin=2->0<=x.v/\x.v<f.regs.toNat
theorem forwardOf_ok(f:BFunc)(hf:qo f):APure Tryz.prog 42 [.agg f.cells] (fun r=>r= .tup [.agg f.forward.cells,.agg f.fcert.cells]):=by
 refine APure.of_body (n:=58) Ah Tryz.func42 rfl rfl ?_;have hn:=hf.n;have hr0:=hf.r0;have hr1:=hf.r1;refine wk 40 ?_;refine ax 1 (Fx 2 0) ?_;refine ax 2 (Ew Ah 1) ?_;refine ax 3 (Ew Ah 2) ?_;refine wk 40 ?_;refine dx 15 (Az Ah (n:=f.blocks.length) (m:=f.blocks.length) 3 true rfl rfl rfl (by simp) (by simp) rfl rfl rfl rfl rfl (Nat.zero_lt_succ _) rfl (Nat.le_refl _) (by show 56*f.blocks.length<=_;omega) (by simp only[maxLen];omega)) ?_;refine wk 40 ?_;refine dx 4 (Ew Ah 4) ?_;refine wk 40 ?_;refine ax 20 (Az Ah (n:=f.blocks.length) (m:=f.blocks.length) 5 true rfl rfl rfl (by simp) (by simp) rfl rfl rfl rfl rfl (Nat.zero_lt_succ _) rfl (Nat.le_refl _) (by show 24*f.blocks.length<=_;omega) (by simp only[maxLen];omega)) ?_;refine wk 40 ?_;refine ax 5 (Ew Ah 6) ?_;refine wk 40 ?_;refine A4 (γ:=Nat) 7 (fun k=>⟨58,(Aa (Aa (Aa (Aa (Aa (Aa (Aa (Aa A8 1 (.ptr 0 1 0 0)) 2 (.ptr 1 1 0 0)) 3 (.ptr 2 1 0 0)) 4 (.ptr 4 1 0 0)) 5 (.ptr 6 1 0 0)) 23 (BZ f.blocks)) 24 (.int .i64 (f.blocks.length:Int))) 25 (.int .i64 (k:Int))),(hput (hput (hput (hput (hput (hput (hput (Bw 7) 0 (.row false 2 [f.cells])) 1 (.row false 2 [[.int .i64 0,.nil]])) 2 (.row false 1 [[.nil]])) 4 (.row false 2 [[.int .i64 f.regs,.ref 3 f.blocks.length 0 f.blocks.length]])) 6 (.row false 1 [[.ref 5 f.blocks.length 0 f.blocks.length]])) 3 (.row true 5 (((((f.blocks.map (Block.forward f.regs.toNat)).take (k)).map Block.cells)++List.replicate (f.blocks.length-(k)) [.nil,.int .i64 0,.int .i64 0,.int .i64 0,.int .i64 0])))) 5 (.row true 1 (((((List.replicate f.blocks.length (List.replicate f.regs.toNat true)).take (k)).map CO)++List.replicate (f.blocks.length-(k)) [.nil]))))⟩) (fun k=>k<=f.blocks.length) (fun k=>f.blocks.length-k) 0 (Sub.mk' Dw Qf) (Nat.zero_le _) (fun _=>(Ag (Ag (Ag (Ag (Ag (Ag (Ag (fun b hb=>AO hb) rfl) rfl) rfl) rfl) rfl) rfl) rfl)) ?_
 intro k hk;refine wk 40 ?_;refine asp 26 (fun hb1=>?_) fun hb1=>?_
 .
  have hkl:k<f.blocks.length:=by simpa using hb1
  obtain⟨x,hx⟩:=Ae hkl;have hxm:=List.mem_of_getElem? hx;have hxf:(f.blocks.map (Block.forward f.regs.toNat))[k]?=some (x.forward f.regs.toNat):=by simp[hx]
  refine wk 40 ?_;refine aq 28 (JF Ah (AC hx)) ?_;refine wk 1 ?_;refine ax 7 (Ew Ah 7) ?_;refine wk 40 ?_;have hfw:=Rb x f.regs.toNat (by omega) (by have:=hf.i x hxm;omega) (hf.t x hxm) (hf.v x hxm);rw[show((f.regs.toNat:Nat):Int)=f.regs by omega]at hfw;refine DOps.x 36 rfl rfl rfl (DX Tryz.func57 hfw) ?_;refine dq 37 (Ac Ah rfl rfl rfl rfl rfl rfl rfl (Av (by simp:(f.blocks.map (Block.forward f.regs.toNat)).length=f.blocks.length) (Nat.le_of_lt hkl)) rfl (Int.natCast_nonneg _) (by omega)) ?_;refine DOps.w rfl rfl (o_store Ah rfl rfl rfl rfl rfl rfl (Av (by simp:(f.blocks.map (Block.forward f.regs.toNat)).length=f.blocks.length) (Nat.le_of_lt hkl)) (fill_get (by simp:(f.blocks.map (Block.forward f.regs.toNat)).length=f.blocks.length) hkl) rfl (by decide) rfl Ee) ?_;refine wk 40 ?_;refine ax 40 (Az Ah (n:=f.regs.toNat) (m:=f.regs.toNat) 8 true rfl rfl rfl (by omega) (by omega) rfl rfl rfl rfl rfl (Nat.zero_lt_succ _) rfl (Nat.le_refl _) (by show 1*f.regs.toNat<=_;omega) (by simp only[maxLen];omega)) ?_;refine wk 40 ?_;refine A4 (γ:=Nat) 9 (fun j=>⟨58,(Aa (Aa (Aa (Aa (Aa (Aa (Aa (Aa (Aa (Aa (Aa (Aa A8 1 (.ptr 0 1 0 0)) 2 (.ptr 1 1 0 0)) 3 (.ptr 2 1 0 0)) 4 (.ptr 4 1 0 0)) 5 (.ptr 6 1 0 0)) 23 (BZ f.blocks)) 24 (.int .i64 (f.blocks.length:Int))) 25 (.int .i64 (k:Int))) 6 (.int .i64 (k:Int))) 8 (.ref 8 f.regs.toNat 0 f.regs.toNat)) 42 (.int .i64 (f.regs.toNat:Int))) 43 (.int .i64 (j:Int))),hput (hput (hput (hput (hput (hput (hput (hput (Bw 9) 0 (.row false 2 [f.cells])) 1 (.row false 2 [[.int .i64 0,.nil]])) 2 (.row false 1 [[.nil]])) 4 (.row false 2 [[.int .i64 f.regs,.ref 3 f.blocks.length 0 f.blocks.length]])) 6 (.row false 1 [[.ref 5 f.blocks.length 0 f.blocks.length]])) 3 (.row true 5 (((((f.blocks.map (Block.forward f.regs.toNat)).take (k+1)).map Block.cells)++List.replicate (f.blocks.length-(k+1)) [.nil,.int .i64 0,.int .i64 0,.int .i64 0,.int .i64 0])))) 5 (.row true 1 (((((List.replicate f.blocks.length (List.replicate f.regs.toNat true)).take (k)).map CO)++List.replicate (f.blocks.length-(k)) [.nil])))) 8 (.row true 1 ((((List.replicate f.regs.toNat true).take (j)).map A1)++List.replicate (f.regs.toNat-(j)) [.bool false]))⟩) (fun j=>j<=f.regs.toNat) (fun j=>f.regs.toNat-j) 0 (Sub.mk' Cw (by repeat(first | exact HSub.none _ | exact AL _ | exact AG (by decide) | refine HSub.put ?_ (by first | rfl | exact congrArg (fun es=>some (AObj.row true 5 es)) (BJ (f:=Block.cells) (by simp:(f.blocks.map (Block.forward f.regs.toNat)).length=f.blocks.length) hxf)) | refine AK ?_ (by decide)))) (Nat.zero_le _) (fun _=>(Ag (Ag (Ag (Ag (Ag (Ag (Ag (Ag (fun b hb=>AO hb) rfl) rfl) rfl) rfl) rfl) rfl) rfl) rfl)) ?_
  intro j hj;refine wk 40 ?_;refine asp 44 (fun hb2=>?_) fun hb2=>?_
  .
   have hjl:j<f.regs.toNat:=by have h:=hb2;simp at h;omega
   refine wk 40 ?_;refine aq 48 (Ac Ah rfl rfl rfl rfl rfl rfl rfl (Av (by simp:(List.replicate f.regs.toNat true).length=f.regs.toNat) (Nat.le_of_lt hjl)) rfl (Int.natCast_nonneg _) (by omega)) ?_;refine AOps.w rfl rfl (o_store Ah rfl rfl rfl rfl rfl rfl (Av (by simp:(List.replicate f.regs.toNat true).length=f.regs.toNat) (Nat.le_of_lt hjl)) (fill_get (by simp:(List.replicate f.regs.toNat true).length=f.regs.toNat) hjl) rfl (by decide) rfl Ee) ?_;refine wk 2 ?_;refine aq 49 (Be rfl rfl hjl (by simp only[maxLen];omega)) ?_;refine wk 40 ?_;exact jE
  have hge2:f.regs.toNat<=j:=by have h:=hb2;simp at h;omega
  refine wk 2 ?_;refine AGo.ghost (.freeze 8 8 rfl rfl (Av (by simp:(List.replicate f.regs.toNat true).length=f.regs.toNat) hj)) ?_;refine wk 40 ?_;refine aq 54 (Ac Ah rfl rfl rfl rfl rfl rfl rfl (Av (by simp:(List.replicate f.blocks.length (List.replicate f.regs.toNat true)).length=f.blocks.length) (Nat.le_of_lt hkl)) rfl (Int.natCast_nonneg _) (by omega)) ?_;refine AOps.w rfl rfl (o_store Ah rfl rfl rfl rfl rfl rfl (Av (by simp:(List.replicate f.blocks.length (List.replicate f.regs.toNat true)).length=f.blocks.length) (Nat.le_of_lt hkl)) (fill_get (by simp:(List.replicate f.blocks.length (List.replicate f.regs.toNat true)).length=f.blocks.length) hkl) rfl (by decide) rfl Ee) ?_;refine wk 2 ?_;refine aq 55 (Be rfl rfl hkl (by simp only[maxLen];omega)) ?_;refine wk 40 ?_;have hcr:=Cf (f:=A1) (z:=[.bool false]) (by simp:(List.replicate f.regs.toNat true).length=f.regs.toNat) hge2
  have hrow:=BJ (f:=CO) (z:=[.nil]) (x:=List.replicate f.regs.toNat true) (by simp:(List.replicate f.blocks.length (List.replicate f.regs.toNat true)).length=f.blocks.length) (by simp[hkl]:(List.replicate f.blocks.length (List.replicate f.regs.toNat true))[k]?=some (List.replicate f.regs.toNat true));exact⟨k+1,Drop.mk' Qd (by repeat(first | exact HDrop.none _ _ | exact HDrop.tail _ _ | refine HDrop.put ?_ (by first | rfl | exact congrArg (fun es=>some (AObj.row true 1 es)) (by rw[<-hrow];exact congrArg (fun b=>List.set _ _ [AV.lst false b]) hcr)) rfl rfl)),hkl,by omega⟩
 have hge:f.blocks.length<=k:=by simpa using hb1
 refine wk 2 ?_;refine AGo.ghost (.freezeCell 4 0 1 3 rfl rfl rfl rfl (Av (by simp:(f.blocks.map (Block.forward f.regs.toNat)).length=f.blocks.length) hk) (by decide)) ?_;refine AGo.ghost (.freezeCell 6 0 0 5 rfl rfl rfl rfl (Av (by simp:(List.replicate f.blocks.length (List.replicate f.regs.toNat true)).length=f.blocks.length) hk) (by decide)) ?_;refine wk 40 ?_;refine⟨[_,_],⟨⟨_,_,_,_,rfl,rfl,.ptr _ _ _ _ _ _ _ _ rfl rfl rfl,rfl⟩,⟨_,_,_,_,rfl,rfl,.ptr _ _ _ _ _ _ _ _ rfl rfl rfl,rfl⟩,trivial⟩,?_,rfl⟩;have e1:=Cf (f:=Block.cells) (z:=[.nil,.int .i64 0,.int .i64 0,.int .i64 0,.int .i64 0]) (by simp:(f.blocks.map (Block.forward f.regs.toNat)).length=f.blocks.length) hge;exact jr
end Go.Proofs.YtbbfelelocccmaaGreat.Sv
namespace Go.Proofs.YtbbfelelocccmaaGreat.Sv
open Go
theorem R5(f:BFunc)(hc:f.count<=1000000000):APure Tryz.prog 35 [.agg f.cells] (fun r=>r= .int .i64 (f.count:Int)):=by
 have hs3:=DJ f;refine APure.of_body (n:=25) Ah Tryz.func35 rfl rfl ?_;refine asq ?_;refine Kw 0 rfl (fun H ι v=>O5) (fun hfit=>?_);refine YE ?_;refine ax 1 (Fx 2 0) ?_;refine wk 15 ?_;refine A4 (γ:=Nat) 1 (fun j=>⟨25,(Aa (Aa (Aa A8 1 (.ptr 0 1 0 0)) 3 (.int .i64 ((f.blocks.length+C8 (f.blocks.take j):Nat):Int))) 4 (.int .i64 (j:Int))),(hput (Bw 1) 0 (.row false 2 [f.cells]))⟩) (fun j=>True) (fun j=>f.blocks.length-j) 0 (Sub.mk' (by repeat(first | exact ESub.new _ | refine ESub.put ?_ (by first | rfl | exact congrArg (fun(n:Nat)=>some (AV.int .i64 (n:Int))) (by show(List.map Block.cells f.blocks).length=f.blocks.length+0;simp)))) Gu) trivial (fun _=>Ag (fun b hb=>AO hb) rfl) ?_;intro j _;refine wk 9 ?_;refine asp 12 (fun hb1=>?_) fun hb1=>?_
 .
  refine act ?_;have hjl:j<f.blocks.length:=by simpa using hb1
  obtain⟨x,hx⟩:=Ae hjl;have hs4:=Q5 hx;have hs5:=Q4 (l:=f.blocks) (k:=j+1);refine wk 8 ?_;refine aq 19 (At Ah rfl rfl rfl rfl rfl rfl (Int.natCast_nonneg _) (AC (by assumption)) rfl) ?_;refine wk 3 ?_;refine aq 23 (Bx (r:=.int .i64 (((f.blocks.length+C8 (f.blocks.take j))+x.ins.length:Nat):Int)) rfl rfl rfl (by simp only[AX,BL,isShift,cond_false,if_true];rw[List.length_map,CB (by omega) (by omega)];rfl)) ?_;refine wk 4 ?_;refine aq 14 (Be rfl rfl hjl hfit.1) ?_;refine wk 2 ?_;exact⟨j+1,Drop.mk' (by repeat(first | exact EDrop.new _ _ | refine EDrop.put ?_ (by first | rfl | exact congrArg (fun(n:Nat)=>some (AV.int .i64 (n:Int))) (by rw[hs4];omega)) (by first | rfl | exact B8 _ rfl | exact Is _ rfl))) OC,trivial,by omega⟩
 refine acf ?_;have hje:C8 (f.blocks.take j)=C8 f.blocks:=by rw[List.take_of_length_le (by simpa using hb1)]
 refine wk 6 ?_;refine Ge ⟨[_],⟨rfl,trivial⟩,?_,rfl⟩;show AV.int .i64 _=AV.int .i64 _;congr 1;rw[hje,hs3]
theorem Zi(b:Blocks)(hc:b.count<=1000000000):APure Tryz.prog 27 [.agg b.cells] (fun r=>r= .int .i64 (b.count:Int)):=by
 refine APure.of_body (n:=21) Ah Tryz.func27 rfl rfl ?_;refine asq ?_;refine Kw 0 rfl (fun H ι v=>Sf) (fun hfit=>?_);refine YE ?_;refine ax 1 (Fx 2 0) ?_;refine wk 12 ?_;refine A4 (γ:=Nat) 1 (fun k=>⟨21,(Aa (Aa (Aa A8 1 (.ptr 0 1 0 0)) 3 (.int .i64 ((((b.funcs.take k).map BFunc.count).sum:Nat):Int))) 4 (.int .i64 (k:Int))),(hput (Bw 1) 0 (.row false 2 [b.cells]))⟩) (fun k=>True) (fun k=>b.funcs.length-k) 0 (Sub.mk' Dw Gu) trivial (fun _=>Ag (fun b hb=>AO hb) rfl) ?_;intro k _;refine wk 9 ?_;refine asp 9 (fun hb1=>?_) fun hb1=>?_
 .
  refine act ?_;have hkl:k<b.funcs.length:=by simpa using hb1
  obtain⟨f,hf⟩:=Ae hkl;have hs1:=sum_succ (p:=BFunc.count) hf;have hs2:_<=b.count:=Lr (l:=b.funcs) (p:=BFunc.count) (k:=k+1);have hs3:=DJ f;refine wk 8 ?_;refine aq 16 (At Ah rfl rfl rfl rfl rfl rfl (Int.natCast_nonneg _) (AC (by assumption)) rfl) ?_;refine wk 1 ?_;refine ax 18 (DX Tryz.func35 (R5 f (by omega))) ?_;refine aq 19 (Bx (r:=.int .i64 ((((b.funcs.take k).map BFunc.count).sum+f.count:Nat):Int)) rfl rfl rfl (by simp only[AX,BL,isShift,cond_false,if_true];rw[CB (by omega) (by omega)];rfl)) ?_;refine wk 4 ?_;refine aq 11 (Be rfl rfl hkl hfit.1) ?_;refine wk 2 ?_;exact⟨k+1,Drop.mk' (by repeat(first | exact EDrop.new _ _ | refine EDrop.put ?_ (by first | rfl | exact congrArg (fun(n:Nat)=>some (AV.int .i64 (n:Int))) (by rw[hs1])) (by first | rfl | exact B8 _ rfl | exact Is _ rfl))) OC,trivial,by omega⟩
 refine acf ?_;have hke:((b.funcs.take k).map BFunc.count).sum=b.count:=c9 (by simpa using hb1);refine wk 6 ?_;refine Ge ⟨[_],⟨rfl,trivial⟩,?_,rfl⟩;show AV.int .i64 _=AV.int .i64 _;congr 1;rw[hke]
end Go.Proofs.YtbbfelelocccmaaGreat.Sv
