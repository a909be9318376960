/-
  WALKS: printed by a program of our own from the code's tree.
-/
import Derived.Test.YtmfihmkopmgelaaPBuildRuns5
import Derived.Test.YtmfihmkopmgelaaPBuildRuns2
import Derived.Test.YtmfihmkopmgelaaPBuildRuns3
set_option linter.unusedVariables false
set_option linter.unusedSimpArgs false
set_option maxRecDepth 100000
set_option maxHeartbeats 2000000
namespace Go.Proofs.Ytmfihmkopmgelaa.Sv
open Go
theorem ND (C : Core) (w : Bool) (b : Bd) (e : CS) (x : CE) (hk : e.kind = 4) (hl : e.es.length = 1) (hx : e.es[0]? = some x) (hc : (x.build C 0 b).cnt <= 80000000) (hV : ACall Try.prog 64 [.ptr 2 1 0 0, .loc x.row, .int .i64 ((0 : Nat) : Int)] (RH (bL C w b) (Ak (b).blocks)) (fun r h' => r = .tup [] /\ HSub (AE 2 hNone (RH (bL C w (x.build C 0 b)) (Ak ((x.build C 0 b)).blocks))) h')) (hEc : (CS.buildL C w e.els (((x.build C 0 b).opened.opened.opened).go ((x.build C 0 b).blocks.length + 2))).cnt <= 80000000) (xe : Block) (hxe : e.els ≠ [] -> (CS.buildL C w e.els (((x.build C 0 b).opened.opened.opened).go ((x.build C 0 b).blocks.length + 2))).blocks[(CS.buildL C w e.els (((x.build C 0 b).opened.opened.opened).go ((x.build C 0 b).blocks.length + 2))).now]? = some xe) (hEls : e.els ≠ [] -> ACall Try.prog 30 [.ptr 2 1 0 0, (.lst false (e.els.map CS.cells))] (RH (bL C w (((x.build C 0 b).opened.opened.opened).go ((x.build C 0 b).blocks.length + 2))) (Ak ((((x.build C 0 b).opened.opened.opened).go ((x.build C 0 b).blocks.length + 2))).blocks)) (fun r h' => r = .tup [] /\ HSub (AE 2 hNone (RH (bL C w (CS.buildL C w e.els (((x.build C 0 b).opened.opened.opened).go ((x.build C 0 b).blocks.length + 2)))) (Ak ((CS.buildL C w e.els (((x.build C 0 b).opened.opened.opened).go ((x.build C 0 b).blocks.length + 2)))).blocks))) h'))
    (zq : Block) (hzq : ∀ q, q = Fl C w e.els (x.build C 0 b) -> q.blocks[q.now]? = some zq) (xt : Block) (hxt : ∀ q, q = Fl C w e.els (x.build C 0 b) -> (CS.buildL C w e.thn ((q.fork 0 (x.build C 0 b).blocks.length (Cj e.els (x.build C 0 b))).go (x.build C 0 b).blocks.length)).blocks[(CS.buildL C w e.thn ((q.fork 0 (x.build C 0 b).blocks.length (Cj e.els (x.build C 0 b))).go (x.build C 0 b).blocks.length)).now]? = some xt) (hThn : ∀ q, q = Fl C w e.els (x.build C 0 b) -> ACall Try.prog 30 [.ptr 2 1 0 0, (.lst false (e.thn.map CS.cells))] (RH (bL C w ((q.fork 0 (x.build C 0 b).blocks.length (Cj e.els (x.build C 0 b))).go (x.build C 0 b).blocks.length)) (Ak (((q.fork 0 (x.build C 0 b).blocks.length (Cj e.els (x.build C 0 b))).go (x.build C 0 b).blocks.length)).blocks)) (fun r h' => r = .tup [] /\ HSub (AE 2 hNone (RH (bL C w (CS.buildL C w e.thn ((q.fork 0 (x.build C 0 b).blocks.length (Cj e.els (x.build C 0 b))).go (x.build C 0 b).blocks.length))) (Ak ((CS.buildL C w e.thn ((q.fork 0 (x.build C 0 b).blocks.length (Cj e.els (x.build C 0 b))).go (x.build C 0 b).blocks.length))).blocks))) h')) : ACall Try.prog 66 [.ptr 2 1 0 0, .loc e.row] (RH (bL C w b) (Ak (b).blocks)) (fun r h' => r = .tup [] /\ HSub (AE 2 hNone (RH (bL C w (e.build C w b)) (Ak ((e.build C w b)).blocks))) h') := by
 have hO : XU (.row false 1 [[.ptr 2 1 0 0]]) (.row false 1 [[.loc e.row]]) .free := ⟨⟨rfl, rfl, rfl⟩, rfl, rfl, rfl⟩
 have hlo := Gh (x.build C 0 b)
 have hol := Ai (x.build C 0 b)
 have hol2 := Ai ((x.build C 0 b).opened)
 refine ACall.of_body (n := 45) Am Try.func66 rfl rfl ?_;refine HV ?_;refine ax 2 (F9 1 4) ?_;refine ax 3 (F9 1 5) ?_;refine wk 8 ?_;refine dq 12 (Ae Am rfl rfl rfl rfl rfl rfl (by decide) (Cf hx) rfl) ?_;refine dx 13 (BK C w b (x.build C 0 b) (b.blocks.length + (x.build C 0 b).blocks.length) (by omega) (by omega) rfl Try.func64 (by kernel_rfl) rfl rfl rfl Da GZ rfl (hV)) ?_;refine B0 FQ [([4],[]), ([5],[]), ([],[]), ([],[]), ([],[]), ([],[]), ([2],[2])] Q9 (by kernel_rfl) ?_;refine asq ?_;refine AGo.sub (s' := ⟨45, (Ad (Ad Bt 2 (.ptr 4 1 0 0)) 3 (.ptr 5 1 0 0)), (AE 5 hNone (RH (FA C w (x.build C 0 b) (.row false 1 [[.ptr 2 1 0 0]]) (.row false 1 [[.loc e.row]]) .free) (Ak ((x.build C 0 b)).blocks)))⟩) (Sub.mk' BH (BT rfl (by decide) Da GZ)) ?_;refine wk 2 ?_;refine dx 15 (BK C w (x.build C 0 b) ((x.build C 0 b).opened) ((x.build C 0 b).blocks.length + ((x.build C 0 b).opened).blocks.length) (by omega) (by omega) rfl Try.func28 (by kernel_rfl) rfl rfl rfl Da GZ rfl (CN C w _ (by omega))) ?_
 refine dq 16 (Ar Am rfl rfl rfl (.ptr _ _ _ _ _ _ _ _ ((Ht (by decide)).trans rfl) rfl rfl) rfl) ?_;refine dx 17 (BK C w ((x.build C 0 b).opened) ((x.build C 0 b).opened.opened) (((x.build C 0 b).opened).blocks.length + ((x.build C 0 b).opened.opened).blocks.length) (by omega) (by omega) rfl Try.func28 (by kernel_rfl) rfl rfl rfl Da GZ rfl (CN C w _ (by omega))) ?_;refine wk 2 ?_;refine B0 FQ [([4],[]), ([2],[2]), ([4],[]), ([2],[2]), ([],[]), ([],[])] Q9 (by kernel_rfl) ?_;refine asq ?_;refine AGo.sub (s' := ⟨45, (Ad (Ad (Ad (Ad Bt 2 (.ptr 4 1 0 0)) 3 (.ptr 5 1 0 0)) 4 (.int .i64 ((x.build C 0 b).blocks.length : Int))) 5 (.int .i64 (((x.build C 0 b).blocks.length + 1 : Nat) : Int))), (AE 5 hNone (RH (FA C w ((x.build C 0 b).opened.opened) (.row false 1 [[.ptr 2 1 0 0]]) (.row false 1 [[.loc e.row]]) .free) (Ak (((x.build C 0 b).opened.opened)).blocks)))⟩) (Sub.mk' (by repeat (first | exact ESub.new _ | refine ESub.put ?_ (by first | rfl | (rw [<- hol]; rfl)))) (BT rfl (by decide) Da GZ)) ?_
 refine wk 14 ?_;refine AGo.join (γ := Bd) (fun q => ⟨45, (Ad (Ad (Ad (Ad (Ad Bt 2 (.ptr 4 1 0 0)) 3 (.ptr 5 1 0 0)) 4 (.int .i64 ((x.build C 0 b).blocks.length : Int))) 5 (.int .i64 (((x.build C 0 b).blocks.length + 1 : Nat) : Int))) 6 (.int .i64 ((Cj e.els (x.build C 0 b) : Nat) : Int))), (AE 5 hNone (RH (FA C w q (.row false 1 [[.ptr 2 1 0 0]]) (.row false 1 [[.loc e.row]]) .free) (Ak (q).blocks)))⟩) (fun q => q = Fl C w e.els (x.build C 0 b)) ?_ ?_
 .
  refine asp 24 (fun hb1 => ?_) fun hb1 => ?_
  .
   refine act ?_
   have hne : e.els ≠ [] := by have h := hb1; simp at h; intro e0; rw [e0] at h; simp at h
   refine wk 3 ?_;refine AOps.call 26 (hn := AE 2 _ (RH (bL C w ((x.build C 0 b).opened.opened.opened)) (Ak (((x.build C 0 b).opened.opened.opened)).blocks))) (r := .int .i64 (((x.build C 0 b).opened.opened).blocks.length : Int)) rfl rfl rfl (Av 2 (bL C w ((x.build C 0 b).opened.opened)) (bL C w ((x.build C 0 b).opened.opened.opened)) (Ak (((x.build C 0 b).opened.opened.opened)).blocks) rfl Try.func28 (by kernel_rfl) rfl rfl rfl rfl rfl (by decide) (Ag C w _) (Ag C w _) Da GZ (fun x => Aa _ x) (fun x => Aa _ x) rfl (CN C w _ (by omega))) ?_;refine wk 2 ?_;refine AGo.sub (s' := ⟨45, (Ad (Ad (Ad (Ad (Ad Bt 2 (.ptr 4 1 0 0)) 3 (.ptr 5 1 0 0)) 4 (.int .i64 ((x.build C 0 b).blocks.length : Int))) 5 (.int .i64 (((x.build C 0 b).blocks.length + 1 : Nat) : Int))) 6 (.int .i64 (((x.build C 0 b).blocks.length + 2 : Nat) : Int))), (AE 5 hNone (RH (FA C w ((x.build C 0 b).opened.opened.opened) (.row false 1 [[.ptr 2 1 0 0]]) (.row false 1 [[.loc e.row]]) .free) (Ak (((x.build C 0 b).opened.opened.opened)).blocks)))⟩) (Sub.mk' (by repeat (first | exact ESub.new _ | refine ESub.put ?_ (by first | rfl | exact congrArg (fun n : Nat => some (AV.int .i64 (n : Int))) (show ((x.build C 0 b).opened.opened).blocks.length = (x.build C 0 b).blocks.length + 2 by omega)))) (BT rfl (by decide) Da GZ)) ?_
   refine wk 4 ?_;refine aq 30 (DB rfl rfl rfl) ?_
   have hnn : ((x.build C 0 b).opened.opened).blocks.length = (x.build C 0 b).blocks.length + 2 := by omega
   refine AOps.call 31 (hn := AE 5 _ (RH (FA C w (((CS.buildL C w e.els (((x.build C 0 b).opened.opened.opened).go ((x.build C 0 b).blocks.length + 2))).jump ((x.build C 0 b).blocks.length + 1)).go (((x.build C 0 b).opened.opened.opened)).now) (.row false 1 [[.ptr 2 1 0 0]]) (.row false 1 [[.loc e.row]]) .free) (Ak (((CS.buildL C w e.els (((x.build C 0 b).opened.opened.opened).go ((x.build C 0 b).blocks.length + 2))).jump ((x.build C 0 b).blocks.length + 1))).blocks))) (r := .tup []) rfl rfl rfl (Av 5 (FA C w (((x.build C 0 b).opened.opened.opened)) (.row false 1 [[.ptr 2 1 0 0]]) (.row false 1 [[.loc e.row]]) .free) (FA C w (((CS.buildL C w e.els (((x.build C 0 b).opened.opened.opened).go ((x.build C 0 b).blocks.length + 2))).jump ((x.build C 0 b).blocks.length + 1)).go (((x.build C 0 b).opened.opened.opened)).now) (.row false 1 [[.ptr 2 1 0 0]]) (.row false 1 [[.loc e.row]]) .free) (Ak ((CS.buildL C w e.els (((x.build C 0 b).opened.opened.opened).go ((x.build C 0 b).blocks.length + 2))).jump ((x.build C 0 b).blocks.length + 1)).blocks) rfl Try.func89 (by kernel_rfl) rfl rfl rfl rfl rfl (by decide) (CV C w _ hO) (CV C w _ hO) Da GZ (fun x => Aa _ x) (fun x => Aa _ x) rfl (Fc C w (((x.build C 0 b).opened.opened.opened)) (.row false 1 [[.ptr 2 1 0 0]]) (.row false 1 [[.loc e.row]]) .free hO ((x.build C 0 b).blocks.length + 2) (((x.build C 0 b).blocks.length + 1)) 90 _ Try.func90 (by kernel_rfl) rfl [.ptr 4 1 0 0, .ptr 5 1 0 0] rfl (CS.buildL C w e.els (((x.build C 0 b).opened.opened.opened).go ((x.build C 0 b).blocks.length + 2))) xe (hxe hne) (QL C w _ e (hEls hne)))) ?_
   refine an ?_;exact ⟨(((CS.buildL C w e.els (((x.build C 0 b).opened.opened.opened).go ((x.build C 0 b).blocks.length + 2))).jump ((x.build C 0 b).blocks.length + 1)).go ((x.build C 0 b).opened.opened.opened).now), Sub.mk' (by repeat (first | exact ESub.new _ | refine ESub.put ?_ (by first | rfl | (unfold Cj; rw [if_neg hne]; rfl) | (unfold Cj; rw [if_pos he0]; rfl)))) (BT rfl (by decide) Da GZ), (by unfold Fl; rw [if_neg hne]; rfl)⟩
  refine BM ?_
  have he0 : e.els = [] := by have h := hb1; simp at h; first | exact h | exact List.length_eq_zero_iff.1 (by omega)
  refine V4 ?_;exact ⟨((x.build C 0 b).opened.opened), Sub.mk' (by repeat (first | exact ESub.new _ | refine ESub.put ?_ (by first | rfl | (unfold Cj; rw [if_neg hne]; rfl) | (unfold Cj; rw [if_pos he0]; rfl)))) (BT rfl (by decide) Da GZ), (by unfold Fl; rw [if_pos he0])⟩
 intro q hq
 have hzq2 := hzq q hq
 have hxt2 := hxt q hq
 have hThn2 := hThn q hq
 refine wk 5 ?_;refine AOps.call 35 (hn := AE 2 _ (RH (bL C w (q.fork 0 (x.build C 0 b).blocks.length (Cj e.els (x.build C 0 b)))) (Ak ((q.fork 0 (x.build C 0 b).blocks.length (Cj e.els (x.build C 0 b)))).blocks))) (r := .tup []) rfl rfl rfl (Av 2 (bL C w q) (bL C w (q.fork 0 (x.build C 0 b).blocks.length (Cj e.els (x.build C 0 b)))) (Ak ((q.fork 0 (x.build C 0 b).blocks.length (Cj e.els (x.build C 0 b)))).blocks) rfl Try.func48 (by kernel_rfl) rfl rfl rfl rfl rfl (by decide) (Ag C w _) (Ag C w _) Da GZ (fun x => Aa _ x) (fun x => Aa _ x) rfl (GV C w q zq hzq2 0 (x.build C 0 b).blocks.length (Cj e.els (x.build C 0 b)))) ?_;refine wk 6 ?_;refine aq 39 (DB rfl rfl rfl) ?_;refine AOps.call 40 (hn := AE 5 _ (RH (FA C w (((CS.buildL C w e.thn ((q.fork 0 (x.build C 0 b).blocks.length (Cj e.els (x.build C 0 b))).go (x.build C 0 b).blocks.length)).jump ((x.build C 0 b).blocks.length + 1)).go ((q.fork 0 (x.build C 0 b).blocks.length (Cj e.els (x.build C 0 b)))).now) (.row false 1 [[.ptr 2 1 0 0]]) (.row false 1 [[.loc e.row]]) .free) (Ak (((CS.buildL C w e.thn ((q.fork 0 (x.build C 0 b).blocks.length (Cj e.els (x.build C 0 b))).go (x.build C 0 b).blocks.length)).jump ((x.build C 0 b).blocks.length + 1))).blocks))) (r := .tup []) rfl rfl rfl (Av 5 (FA C w ((q.fork 0 (x.build C 0 b).blocks.length (Cj e.els (x.build C 0 b)))) (.row false 1 [[.ptr 2 1 0 0]]) (.row false 1 [[.loc e.row]]) .free) (FA C w (((CS.buildL C w e.thn ((q.fork 0 (x.build C 0 b).blocks.length (Cj e.els (x.build C 0 b))).go (x.build C 0 b).blocks.length)).jump ((x.build C 0 b).blocks.length + 1)).go ((q.fork 0 (x.build C 0 b).blocks.length (Cj e.els (x.build C 0 b)))).now) (.row false 1 [[.ptr 2 1 0 0]]) (.row false 1 [[.loc e.row]]) .free) (Ak ((CS.buildL C w e.thn ((q.fork 0 (x.build C 0 b).blocks.length (Cj e.els (x.build C 0 b))).go (x.build C 0 b).blocks.length)).jump ((x.build C 0 b).blocks.length + 1)).blocks) rfl Try.func89 (by kernel_rfl) rfl rfl rfl rfl rfl (by decide) (CV C w _ hO) (CV C w _ hO) Da GZ (fun x => Aa _ x) (fun x => Aa _ x) rfl (Fc C w ((q.fork 0 (x.build C 0 b).blocks.length (Cj e.els (x.build C 0 b)))) (.row false 1 [[.ptr 2 1 0 0]]) (.row false 1 [[.loc e.row]]) .free hO ((x.build C 0 b).blocks.length) (((x.build C 0 b).blocks.length + 1)) 91 _ Try.func91 (by kernel_rfl) rfl [.ptr 4 1 0 0, .ptr 5 1 0 0] rfl (CS.buildL C w e.thn ((q.fork 0 (x.build C 0 b).blocks.length (Cj e.els (x.build C 0 b))).go (x.build C 0 b).blocks.length)) xt hxt2 (QK C w _ e hThn2))) ?_
 refine wk 8 ?_
 have e1 : e.build C w b = (((CS.buildL C w e.thn ((q.fork 0 (x.build C 0 b).blocks.length (Cj e.els (x.build C 0 b))).go (x.build C 0 b).blocks.length)).jump ((x.build C 0 b).blocks.length + 1)).go (q.fork 0 (x.build C 0 b).blocks.length (Cj e.els (x.build C 0 b))).now).go ((x.build C 0 b).blocks.length + 1) := by rw [fb hk hl hx, hq]; rfl
 rw [e1]
 exact Xy
theorem UY (C : Core) (w : Bool) (b : Bd) : ACall Try.prog 92 ([] ++ [] ++ []) (RH (FA C w b .free .free .free) (Ak (b).blocks)) (fun r h' => r = .tup [] /\ HSub (AE 5 hNone (RH (FA C w b .free .free .free) (Ak (b).blocks))) h') := by
 refine ACall.of_body (n := 0) Am Try.func92 rfl rfl ?_;refine V4 ?_;exact J0
theorem UZ (C : Core) (w : Bool) (b : Bd) (x0 : Block) (hx0 : ((b.opened.opened.opened).go b.now).blocks[((b.opened.opened.opened).go b.now).now]? = some x0) : ACall Try.prog 89 [.ptr 2 1 0 0, .int .i64 (b.now : Int), .int .i64 (b.blocks.length : Int), .fn (.func 92) [] []] (RH (bL C w (b.opened.opened.opened)) (Ak ((b.opened.opened.opened)).blocks)) (fun r h' => r = .tup [] /\ HSub (AE 2 hNone (RH (bL C w ((((b.opened.opened.opened).go b.now).jump b.blocks.length).go (b.opened.opened.opened).now)) (Ak (((((b.opened.opened.opened).go b.now).jump b.blocks.length).go (b.opened.opened.opened).now)).blocks))) h') := by
  have h := Fc C w (b.opened.opened.opened) .free .free .free ⟨⟨rfl, rfl, rfl⟩, rfl, rfl, rfl⟩ b.now b.blocks.length 92 _ Try.func92 (by kernel_rfl) rfl [] rfl ((b.opened.opened.opened).go b.now) x0 hx0 (UY C w ((b.opened.opened.opened).go b.now))
  rw [Pj, Pj] at h
  exact h.mono fun r h' hr => ⟨hr.1, Sw hr.2⟩
theorem QR (C : Core) (w : Bool) (b : Bd) (e : CS) (x : CE) (hk : e.kind = 5) (hl : e.es.length = 1) (hx : e.es[0]? = some x) (hc : b.cnt <= 70000000) (hlt : b.now < b.blocks.length) (x0 : Block) (hx0 : ((b.opened.opened.opened).go b.now).blocks[((b.opened.opened.opened).go b.now).now]? = some x0) (hV : ACall Try.prog 64 [.ptr 2 1 0 0, .loc x.row, .int .i64 ((0 : Nat) : Int)] (RH (bL C w (((((b.opened.opened.opened).go b.now).jump b.blocks.length).go b.now).go b.blocks.length)) (Ak ((((((b.opened.opened.opened).go b.now).jump b.blocks.length).go b.now).go b.blocks.length)).blocks)) (fun r h' => r = .tup [] /\ HSub (AE 2 hNone (RH (bL C w (x.build C 0 (((((b.opened.opened.opened).go b.now).jump b.blocks.length).go b.now).go b.blocks.length))) (Ak ((x.build C 0 (((((b.opened.opened.opened).go b.now).jump b.blocks.length).go b.now).go b.blocks.length))).blocks))) h')) (zx : Block) (hzx : (x.build C 0 (((((b.opened.opened.opened).go b.now).jump b.blocks.length).go b.now).go b.blocks.length)).blocks[(x.build C 0 (((((b.opened.opened.opened).go b.now).jump b.blocks.length).go b.now).go b.blocks.length)).now]? = some zx) (xt : Block) (hxt : (CS.buildL C w e.thn (((x.build C 0 (((((b.opened.opened.opened).go b.now).jump b.blocks.length).go b.now).go b.blocks.length)).fork 0 (b.blocks.length + 1) (b.blocks.length + 2)).go (b.blocks.length + 1))).blocks[(CS.buildL C w e.thn (((x.build C 0 (((((b.opened.opened.opened).go b.now).jump b.blocks.length).go b.now).go b.blocks.length)).fork 0 (b.blocks.length + 1) (b.blocks.length + 2)).go (b.blocks.length + 1))).now]? = some xt) (hThn : ACall Try.prog 30 [.ptr 2 1 0 0, (.lst false (e.thn.map CS.cells))] (RH (bL C w (((x.build C 0 (((((b.opened.opened.opened).go b.now).jump b.blocks.length).go b.now).go b.blocks.length)).fork 0 (b.blocks.length + 1) (b.blocks.length + 2)).go (b.blocks.length + 1))) (Ak ((((x.build C 0 (((((b.opened.opened.opened).go b.now).jump b.blocks.length).go b.now).go b.blocks.length)).fork 0 (b.blocks.length + 1) (b.blocks.length + 2)).go (b.blocks.length + 1))).blocks)) (fun r h' => r = .tup [] /\ HSub (AE 2 hNone (RH (bL C w (CS.buildL C w e.thn (((x.build C 0 (((((b.opened.opened.opened).go b.now).jump b.blocks.length).go b.now).go b.blocks.length)).fork 0 (b.blocks.length + 1) (b.blocks.length + 2)).go (b.blocks.length + 1)))) (Ak ((CS.buildL C w e.thn (((x.build C 0 (((((b.opened.opened.opened).go b.now).jump b.blocks.length).go b.now).go b.blocks.length)).fork 0 (b.blocks.length + 1) (b.blocks.length + 2)).go (b.blocks.length + 1)))).blocks))) h')) : ACall Try.prog 67 [.ptr 2 1 0 0, .loc e.row] (RH (bL C w b) (Ak (b).blocks)) (fun r h' => r = .tup [] /\ HSub (AE 2 hNone (RH (bL C w (e.build C w b)) (Ak ((e.build C w b)).blocks))) h') := by
 have hO : XU (.row false 1 [[.ptr 2 1 0 0]]) (.row false 1 [[.loc e.row]]) .free := ⟨⟨rfl, rfl, rfl⟩, rfl, rfl, rfl⟩
 have hlo := Gh b
 have hol := Ai b
 have hol2 := Ai (b.opened)
 have hol3 := Ai (b.opened.opened)
 refine ACall.of_body (n := 44) Am Try.func67 rfl rfl ?_;refine HV ?_;refine ax 2 (F9 1 4) ?_;refine ax 3 (F9 1 5) ?_;refine wk 4 ?_;refine dx 8 (BK C w b (b.opened) (b.blocks.length + (b.opened).blocks.length) (by omega) (by omega) rfl Try.func28 (by kernel_rfl) rfl rfl rfl Da GZ rfl (CN C w _ (by omega))) ?_;refine dq 9 (Ar Am rfl rfl rfl (.ptr _ _ _ _ _ _ _ _ ((Ht (by decide)).trans rfl) rfl rfl) rfl) ?_;refine dx 10 (BK C w (b.opened) (b.opened.opened) ((b.opened).blocks.length + (b.opened.opened).blocks.length) (by omega) (by omega) rfl Try.func28 (by kernel_rfl) rfl rfl rfl Da GZ rfl (CN C w _ (by omega))) ?_;refine dq 11 (Ar Am rfl rfl rfl (.ptr _ _ _ _ _ _ _ _ ((EZ (by decide) (by decide) (by decide)).trans ((EZ (by decide) (by decide) (by decide)).trans rfl)) rfl rfl) rfl) ?_;refine dx 12 (BK C w (b.opened.opened) (b.opened.opened.opened) ((b.opened.opened).blocks.length + (b.opened.opened.opened).blocks.length) (by omega) (by omega) rfl Try.func28 (by kernel_rfl) rfl rfl rfl fv fw rfl (CN C w _ (by omega))) ?_
 refine wk 3 ?_;refine B0 FQ [([4],[]), ([2],[2]), ([4],[]), ([2],[2]), ([4],[]), ([2],[2]), ([],[]), ([],[]), ([],[])] Q9 (by kernel_rfl) ?_;refine asq ?_;refine AGo.sub (s' := ⟨44, (Ad (Ad (Ad (Ad (Ad Bt 2 (.ptr 4 1 0 0)) 3 (.ptr 5 1 0 0)) 4 (.int .i64 (b.blocks.length : Int))) 5 (.int .i64 ((b.blocks.length + 1 : Nat) : Int))) 6 (.int .i64 ((b.blocks.length + 2 : Nat) : Int))), (AE 5 hNone (RH (FA C w (b.opened.opened.opened) (.row false 1 [[.ptr 2 1 0 0]]) (.row false 1 [[.loc e.row]]) .free) (Ak ((b.opened.opened.opened)).blocks)))⟩) (Sub.mk' (by repeat (first | exact ESub.new _ | refine ESub.put ?_ (by first | rfl | exact congrArg (fun n : Nat => some (AV.int .i64 (n : Int))) (by omega)))) (BT rfl (by decide) fv fw)) ?_;refine wk 7 ?_;refine dx 19 (BK C w (b.opened.opened.opened) ((((b.opened.opened.opened).go b.now).jump b.blocks.length).go b.now) ((b.opened.opened.opened).blocks.length + ((((b.opened.opened.opened).go b.now).jump b.blocks.length).go b.now).blocks.length) (by omega) (by omega) rfl Try.func89 (by kernel_rfl) rfl rfl rfl Da GZ rfl (UZ C w b x0 hx0)) ?_
 refine B0 FQ [([4],[]), ([4],[]), ([],[]), ([],[]), ([2],[]), ([],[]), ([2],[2])] Q9 (by kernel_rfl) ?_;refine asq ?_;refine AGo.sub (s' := ⟨44, (Ad (Ad (Ad (Ad (Ad Bt 2 (.ptr 4 1 0 0)) 3 (.ptr 5 1 0 0)) 4 (.int .i64 (b.blocks.length : Int))) 5 (.int .i64 ((b.blocks.length + 1 : Nat) : Int))) 6 (.int .i64 ((b.blocks.length + 2 : Nat) : Int))), (AE 5 hNone (RH (FA C w ((((b.opened.opened.opened).go b.now).jump b.blocks.length).go b.now) (.row false 1 [[.ptr 2 1 0 0]]) (.row false 1 [[.loc e.row]]) .free) (Ak (((((b.opened.opened.opened).go b.now).jump b.blocks.length).go b.now)).blocks)))⟩) (Sub.mk' BH (BT rfl (by decide) Da GZ)) ?_;refine wk 8 ?_;refine AGo.sub (s' := ⟨44, (Ad (Ad (Ad (Ad (Ad Bt 2 (.ptr 4 1 0 0)) 3 (.ptr 5 1 0 0)) 4 (.int .i64 (b.blocks.length : Int))) 5 (.int .i64 ((b.blocks.length + 1 : Nat) : Int))) 6 (.int .i64 ((b.blocks.length + 2 : Nat) : Int))), (AE 5 hNone (RH (FA C w (((((b.opened.opened.opened).go b.now).jump b.blocks.length).go b.now).go b.blocks.length) (.row false 1 [[.ptr 2 1 0 0]]) (.row false 1 [[.loc e.row]]) .free) (Ak ((((((b.opened.opened.opened).go b.now).jump b.blocks.length).go b.now).go b.blocks.length)).blocks)))⟩) (Sub.mk' BH (BT rfl (by decide) Da GZ)) ?_
 refine wk 6 ?_;refine dq 29 (Ae Am rfl rfl rfl rfl rfl rfl (by decide) (Cf hx) rfl) ?_;refine dx 30 (BK C w (((((b.opened.opened.opened).go b.now).jump b.blocks.length).go b.now).go b.blocks.length) (x.build C 0 (((((b.opened.opened.opened).go b.now).jump b.blocks.length).go b.now).go b.blocks.length)) ((((((b.opened.opened.opened).go b.now).jump b.blocks.length).go b.now).go b.blocks.length).blocks.length + (x.build C 0 (((((b.opened.opened.opened).go b.now).jump b.blocks.length).go b.now).go b.blocks.length)).blocks.length) (by omega) (by omega) rfl Try.func64 (by kernel_rfl) rfl rfl rfl Da GZ rfl (hV)) ?_;refine B0 FQ [([4],[]), ([5],[]), ([],[]), ([],[]), ([],[]), ([],[]), ([2],[2])] Q9 (by kernel_rfl) ?_;refine asq ?_;refine AGo.sub (s' := ⟨44, (Ad (Ad (Ad (Ad (Ad Bt 2 (.ptr 4 1 0 0)) 3 (.ptr 5 1 0 0)) 4 (.int .i64 (b.blocks.length : Int))) 5 (.int .i64 ((b.blocks.length + 1 : Nat) : Int))) 6 (.int .i64 ((b.blocks.length + 2 : Nat) : Int))), (AE 5 hNone (RH (FA C w (x.build C 0 (((((b.opened.opened.opened).go b.now).jump b.blocks.length).go b.now).go b.blocks.length)) (.row false 1 [[.ptr 2 1 0 0]]) (.row false 1 [[.loc e.row]]) .free) (Ak ((x.build C 0 (((((b.opened.opened.opened).go b.now).jump b.blocks.length).go b.now).go b.blocks.length))).blocks)))⟩) (Sub.mk' BH (BT rfl (by decide) Da GZ)) ?_
 refine wk 4 ?_;refine AOps.call 34 (hn := AE 2 _ (RH (bL C w ((x.build C 0 (((((b.opened.opened.opened).go b.now).jump b.blocks.length).go b.now).go b.blocks.length)).fork 0 (b.blocks.length + 1) (b.blocks.length + 2))) (Ak (((x.build C 0 (((((b.opened.opened.opened).go b.now).jump b.blocks.length).go b.now).go b.blocks.length)).fork 0 (b.blocks.length + 1) (b.blocks.length + 2))).blocks))) (r := .tup []) rfl rfl rfl (Av 2 (bL C w (x.build C 0 (((((b.opened.opened.opened).go b.now).jump b.blocks.length).go b.now).go b.blocks.length))) (bL C w ((x.build C 0 (((((b.opened.opened.opened).go b.now).jump b.blocks.length).go b.now).go b.blocks.length)).fork 0 (b.blocks.length + 1) (b.blocks.length + 2))) (Ak (((x.build C 0 (((((b.opened.opened.opened).go b.now).jump b.blocks.length).go b.now).go b.blocks.length)).fork 0 (b.blocks.length + 1) (b.blocks.length + 2))).blocks) rfl Try.func48 (by kernel_rfl) rfl rfl rfl rfl rfl (by decide) (Ag C w _) (Ag C w _) Da GZ (fun x => Aa _ x) (fun x => Aa _ x) rfl (GV C w (x.build C 0 (((((b.opened.opened.opened).go b.now).jump b.blocks.length).go b.now).go b.blocks.length)) zx hzx 0 (b.blocks.length + 1) (b.blocks.length + 2))) ?_
 refine wk 6 ?_;refine aq 38 (DB rfl rfl rfl) ?_;refine AOps.call 39 (hn := AE 5 _ (RH (FA C w (((CS.buildL C w e.thn (((x.build C 0 (((((b.opened.opened.opened).go b.now).jump b.blocks.length).go b.now).go b.blocks.length)).fork 0 (b.blocks.length + 1) (b.blocks.length + 2)).go (b.blocks.length + 1))).jump b.blocks.length).go (((x.build C 0 (((((b.opened.opened.opened).go b.now).jump b.blocks.length).go b.now).go b.blocks.length)).fork 0 (b.blocks.length + 1) (b.blocks.length + 2))).now) (.row false 1 [[.ptr 2 1 0 0]]) (.row false 1 [[.loc e.row]]) .free) (Ak (((CS.buildL C w e.thn (((x.build C 0 (((((b.opened.opened.opened).go b.now).jump b.blocks.length).go b.now).go b.blocks.length)).fork 0 (b.blocks.length + 1) (b.blocks.length + 2)).go (b.blocks.length + 1))).jump b.blocks.length)).blocks))) (r := .tup []) rfl rfl rfl (Av 5 (FA C w (((x.build C 0 (((((b.opened.opened.opened).go b.now).jump b.blocks.length).go b.now).go b.blocks.length)).fork 0 (b.blocks.length + 1) (b.blocks.length + 2))) (.row false 1 [[.ptr 2 1 0 0]]) (.row false 1 [[.loc e.row]]) .free) (FA C w (((CS.buildL C w e.thn (((x.build C 0 (((((b.opened.opened.opened).go b.now).jump b.blocks.length).go b.now).go b.blocks.length)).fork 0 (b.blocks.length + 1) (b.blocks.length + 2)).go (b.blocks.length + 1))).jump b.blocks.length).go (((x.build C 0 (((((b.opened.opened.opened).go b.now).jump b.blocks.length).go b.now).go b.blocks.length)).fork 0 (b.blocks.length + 1) (b.blocks.length + 2))).now) (.row false 1 [[.ptr 2 1 0 0]]) (.row false 1 [[.loc e.row]]) .free) (Ak ((CS.buildL C w e.thn (((x.build C 0 (((((b.opened.opened.opened).go b.now).jump b.blocks.length).go b.now).go b.blocks.length)).fork 0 (b.blocks.length + 1) (b.blocks.length + 2)).go (b.blocks.length + 1))).jump b.blocks.length).blocks) rfl Try.func89 (by kernel_rfl) rfl rfl rfl rfl rfl (by decide) (CV C w _ hO) (CV C w _ hO) Da GZ (fun x => Aa _ x) (fun x => Aa _ x) rfl (Fc C w (((x.build C 0 (((((b.opened.opened.opened).go b.now).jump b.blocks.length).go b.now).go b.blocks.length)).fork 0 (b.blocks.length + 1) (b.blocks.length + 2))) (.row false 1 [[.ptr 2 1 0 0]]) (.row false 1 [[.loc e.row]]) .free hO (b.blocks.length + 1) (b.blocks.length) 93 _ Try.func93 (by kernel_rfl) rfl [.ptr 4 1 0 0, .ptr 5 1 0 0] rfl (CS.buildL C w e.thn (((x.build C 0 (((((b.opened.opened.opened).go b.now).jump b.blocks.length).go b.now).go b.blocks.length)).fork 0 (b.blocks.length + 1) (b.blocks.length + 2)).go (b.blocks.length + 1))) xt hxt (UX C w _ e hThn))) ?_
 refine wk 8 ?_
 have e1 : e.build C w b = (((CS.buildL C w e.thn (((x.build C 0 (((((b.opened.opened.opened).go b.now).jump b.blocks.length).go b.now).go b.blocks.length)).fork 0 (b.blocks.length + 1) (b.blocks.length + 2)).go (b.blocks.length + 1))).jump b.blocks.length).go ((x.build C 0 (((((b.opened.opened.opened).go b.now).jump b.blocks.length).go b.now).go b.blocks.length)).fork 0 (b.blocks.length + 1) (b.blocks.length + 2)).now).go (b.blocks.length + 2) := by rw [fa hk hl hx]; rfl
 rw [e1]
 exact Xy
theorem Jo (C : Core) (w : Bool) (n : Nat) (l : List CS) (hS : ∀ x ∈ l, ∀ (b : Bd), Pl b -> b.cnt + 11 * x.parts <= 70000000 -> ACall Try.prog 50 [.ptr 2 1 0 0, .loc x.row] (RH (bL C w b) (Ak (b).blocks)) (fun r h' => r = .tup [] /\ HSub (AE 2 hNone (RH (bL C w (x.build C w b)) (Ak ((x.build C w b)).blocks))) h')) (hok : CS.okL C n w l) (hlen : l.length * 96 <= reachBytes) (b : Bd) (hP : Pl b) (hc : b.cnt + 11 * CS.partsL l <= 70000000) : ACall Try.prog 30 [.ptr 2 1 0 0, (.lst false (l.map CS.cells))] (RH (bL C w b) (Ak (b).blocks)) (fun r h' => r = .tup [] /\ HSub (AE 2 hNone (RH (bL C w (CS.buildL C w l b)) (Ak ((CS.buildL C w l b)).blocks))) h') := by
  refine Pd C w b l (Is hlen) fun k x hx => hS x (List.mem_of_getElem? hx) _ (Gx (Mb k hok) hP) ?_
  have h1 := H9 hx
  have h2 := PS (l := l) (k + 1)
  have h3 := D9 (C := C) (w := w) (l := l.take k) (fun e _ => Fa e.parts e (Nat.le_refl _)) b
  omega
theorem LB (C : Core) (w : Bool) (n : Nat) (hr : JX C) : ∀ (m : Nat) (e : CS), e.parts <= m -> e.ok C n w -> e.Ok -> ∀ (b : Bd), Pl b -> b.cnt + 11 * e.parts <= 70000000 -> ACall Try.prog 50 [.ptr 2 1 0 0, .loc e.row] (RH (bL C w b) (Ak (b).blocks)) (fun r h' => r = .tup [] /\ HSub (AE 2 hNone (RH (bL C w (e.build C w b)) (Ak ((e.build C w b)).blocks))) h')
  | 0, e, hm, _, _, _, _, _ => absurd hm (by have := BG e; omega)
  | m + 1, e, hm, ho, hk, b, hP, hc => by
    have hpe := BG e
    have hT := Jo C w n e.thn (fun x hx => LB C w n hr m x (by have := AO hx; omega) (sokL_mem (Ib ho) hx) (hk.thnOk.1 x hx)) (Ib ho) hk.thnOk.2
    have hL := Jo C w n e.els (fun x hx => LB C w n hr m x (by have := AO hx; omega) (sokL_mem (Ic ho) hx) (hk.elsOk.1 x hx)) (Ic ho) hk.elsOk.2
    refine QP C w b n hr e ho hP hc (by omega) (fun h4 => ?_) (fun h5 => ?_)
    . have hl := XJ ho (.inr h4)
      obtain ⟨x, hx, hxm⟩ := Gu (l := e.es) (by omega)
      have hxo := FY ho hxm
      have hpx := AW hxm
      have hPx : Pl (x.build C 0 b) := (BP x.parts x (Nat.le_refl _) hxo 0 b hP).pl
      have c1 := BW (C := C) x.parts x (Nat.le_refl _) 0 b
      have hPe : Pl ((x.build C 0 b).opened.opened.opened.go ((x.build C 0 b).blocks.length + 2)) := Ka (I8 _)
      have c2 := D9 (C := C) (w := w) (l := e.els) (fun e _ => Fa e.parts e (Nat.le_refl _)) ((x.build C 0 b).opened.opened.opened.go ((x.build C 0 b).blocks.length + 2))
      rw [BV, AU, AU, AU] at c2
      obtain ⟨xe, hxe⟩ := (Gx (Ic ho) hPe).cur
      obtain ⟨q1, ⟨zq, q2⟩, q3, q4⟩ := Vt (C := C) (n := n) (w := w) (Ic ho) hPx
      have hne : (x.build C 0 b).blocks.length ≠ (Fl C w e.els (x.build C 0 b)).now := by have := hPx.lt; omega
      have hPt := forked_pl (v := 0) (to := (x.build C 0 b).blocks.length) (els := Cj e.els (x.build C 0 b)) q3 hne
      obtain ⟨xt, hxt⟩ := (Gx (Ib ho) hPt).cur
      exact ND C w b e x h4 hl hx (by omega) (EG C w n hr x.parts x (Nat.le_refl _) hxo 0 b hP (by omega) (by omega)) (by omega) xe (fun _ => hxe) (fun _ => hL _ hPe (by rw [BV, AU, AU, AU]; omega))
        zq (fun q hq => by rw [hq, q1]; exact q2) xt (fun q hq => by rw [hq]; exact hxt) (fun q hq => by rw [hq]; exact hT _ hPt (by rw [BV, Eo]; omega))
    . have hl := XI ho h5
      obtain ⟨x, hx, hxm⟩ := Gu (l := e.es) (by omega)
      have hxo := FY ho hxm
      have hpx := AW hxm
      have hlt := hP.lt
      obtain ⟨x0, hx0⟩ := hP.cur
      have hl3 : b.opened.opened.opened.blocks.length = b.blocks.length + 3 := by rw [Ai, Ai, Ai]
      have hG0 : (((b.opened.opened.opened.go b.now).jump b.blocks.length).go b.now).blocks[b.blocks.length]? = some blk0 := Je (q := b.opened.opened.opened.go b.now) (open3_at b) NM
      have hG1 : (((b.opened.opened.opened.go b.now).jump b.blocks.length).go b.now).blocks[b.blocks.length + 1]? = some blk0 := Je (q := b.opened.opened.opened.go b.now) (SA b) (by show b.blocks.length + 1 ≠ b.now; omega)
      have hPG := Ka hG0
      have hcx := BP x.parts x (Nat.le_refl _) hxo 0 _ hPG
      have c1 := BW (C := C) x.parts x (Nat.le_refl _) 0 ((((b.opened.opened.opened.go b.now).jump b.blocks.length).go b.now).go b.blocks.length)
      rw [BV, BV, IE, BV, AU, AU, AU] at c1
      obtain ⟨zx, hzx⟩ := hcx.pl.cur
      have hfr := hcx.fr.old (b.blocks.length + 1) blk0 (by show b.blocks.length + 1 ≠ b.blocks.length; omega) hG1
      have hnow := hcx.fr.now
      have hGl : ((((b.opened.opened.opened.go b.now).jump b.blocks.length).go b.now).go b.blocks.length).blocks.length = b.blocks.length + 3 := by
        show (b.opened.opened.opened.blocks.modify b.now _).length = _
        rw [List.length_modify]; exact hl3
      have hne : b.blocks.length + 1 ≠ (x.build C 0 ((((b.opened.opened.opened.go b.now).jump b.blocks.length).go b.now).go b.blocks.length)).now := by
        rcases hnow with h | h
        . rw [h]; show b.blocks.length + 1 ≠ b.blocks.length; omega
        . rw [hGl] at h; omega
      have hPt := forked_pl (v := 0) (to := b.blocks.length + 1) (els := b.blocks.length + 2) hfr hne
      obtain ⟨xt, hxt⟩ := (Gx (Ib ho) hPt).cur
      exact QR C w b e x h5 hl hx (by omega) hlt x0 (by show b.opened.opened.opened.blocks[b.now]? = _; rw [AF (by rw [Ai, Ai]; omega), AF (by rw [Ai]; omega), AF hlt]; exact hx0)
        (EG C w n hr x.parts x (Nat.le_refl _) hxo 0 _ hPG (by rw [BV, BV, IE, BV, AU, AU, AU]; omega) (by omega)) zx hzx xt hxt (hT _ hPt (by rw [BV, Eo]; omega))
theorem QQ (C : Core) (w : Bool) (b : Bd) (a to : Int) (hb : b.Cur) (ha : 0 <= a) (ha2 : a <= 1000000) (hto : to <= 1000000) (hto0 : 0 <= to) (hc : b.cnt <= 50000000) : ACall Try.prog 29 [.ptr 2 1 0 0, .int .i64 a, .int .i64 to] (RH (bL C w b) (Ak (b).blocks)) (fun r h' => r = .tup [] /\ HSub (AE 2 hNone (RH (bL C w (b.nought a (to - a).toNat)) (Ak ((b.nought a (to - a).toNat)).blocks))) h') := by
 obtain ⟨x, hx⟩ := id hb
 refine ACall.of_body (n := 80) Am Try.func29 rfl rfl ?_;refine wk 7 ?_;refine asp 12 (fun hb1 => ?_) fun hb1 => ?_
 .
  refine wk 2 ?_
  rw [Qf b a (show (to - a).toNat = 0 by have h := hb1; simp at h; omega)]
  exact J0
 refine BM ?_
 have hlt : a < to := by have h := hb1; simp at h; omega
 refine wk 4 ?_;refine AOps.call 14 (hn := AE 2 _ (RH (bL C w (b.put (AT 0 0))) (Ak ((b.put (AT 0 0))).blocks))) (r := .tup []) rfl rfl rfl (Av 2 (bL C w b) (bL C w (b.put (AT 0 0))) (Ak ((b.put (AT 0 0))).blocks) rfl Try.func44 (by kernel_rfl) rfl rfl rfl rfl rfl (by decide) (Ag C w _) (Ag C w _) Bs C8 (fun x => Aa _ x) (fun x => Aa _ x) rfl (Fo C w b x hx (by omega) 0 0 (by omega))) ?_;refine wk 3 ?_;refine Dj (γ := Nat × Bd × Int) (kf 4) (fun q => ⟨80, (Ad (Ad (Ad Bt 0 (.ptr 2 1 0 0)) 1 (.int .i64 q.2.2)) 2 (.int .i64 to)), (fam (nb [.free, .free, (.row false 6 [DJ C w q.2.1]), (.row false 5 (Br (q.2.1).blocks))]) (Ak (q.2.1).blocks))⟩) (fun q => NoW (b.nought a (to - a).toNat) to (b.cnt + 1 + (to - a).toNat) q) (fun q => (to - q.2.2).toNat) ((to - a).toNat, (b.put (AT 0 0)), a) (Sub.mk' BH (EA (k0 := 4) rfl MZ PC (fun c h1 h2 => by rcases (by omega : c = 4 \/ c = 5 \/ c = 6 \/ c = 7 \/ c = 8 \/ c = 9 \/ c = 10 \/ c = 11 \/ c = 12 \/ c = 13 \/ c = 14 \/ c = 15) with rfl | rfl | rfl | rfl | rfl | rfl | rfl | rfl | rfl | rfl | rfl | rfl <;> first | rfl | (try simp only [hputs]; repeat (first | rfl | refine Aw (by exact Af (by omega)) ?_ | refine AP (by omega) ?_))))) (NoW.first hb ha hlt) (fun g b hb => Fk (k0 := 4) rfl hb) ?_
 intro q hQ
 have hc0 := hQ.cnt
 have hqa := hQ.a0
 have hqt := hQ.a1
 refine wk 5 ?_;refine aq 17 (AI (r := .int .i64 (to - q.2.2)) rfl rfl rfl Dz) ?_;refine wk 2 ?_;refine asp 18 (fun hb2 => ?_) fun hb2 => ?_
 .
  refine act ?_
  have hn64 : 64 < (to - q.2.2).toNat := by have h := hb2; simp at h; omega
  have hN := hQ.next hn64
  have hc0 := hQ.cnt
  have hqa := hQ.a0
  have hqt := hQ.a1
  have hn3 := ER hn64
  obtain ⟨x0, hx0⟩ := id hQ.cur
  have u1 := hQ.cur.put (AT 1 0)
  have c1 := hQ.cur.cnt (AT 1 0)
  obtain ⟨x1, hx1⟩ := id u1
  have u2 := u1.put (AT 2 8)
  have c2 := u1.cnt (AT 2 8)
  obtain ⟨x2, hx2⟩ := id u2
  have u3 : Bd.Cur (q.2.1.chunk1 (chunkN (to - q.2.2).toNat)) := u2.put (AT 3 (chunkN (to - q.2.2).toNat))
  have c3 : Bd.cnt (q.2.1.chunk1 (chunkN (to - q.2.2).toNat)) = _ := u2.cnt (AT 3 (chunkN (to - q.2.2).toNat))
  obtain ⟨x4, hx4⟩ := id u3.opened
  have u4 := Lq u3
  have c4 := Lv (q.2.1.chunk1 (chunkN (to - q.2.2).toNat))
  have u8 := En u4 q.2.2 (((chunkN (to - q.2.2).toNat) : Int) - 7) 8
  have c8 := Fm u4 q.2.2 (((chunkN (to - q.2.2).toNat) : Int) - 7) 8
  obtain ⟨y8, hy8⟩ := id u8
  have u9 := u8.put (AS 4 1 1 2)
  have c9 := u8.cnt (AS 4 1 1 2)
  obtain ⟨y9, hy9⟩ := id u9
  have u10 := u9.put (AS 14 4 1 3)
  have c10 := u9.cnt (AS 14 4 1 3)
  obtain ⟨y11, hy11⟩ := id u10.opened
  refine wk 6 ?_;refine aq 21 (AI (r := .int .i64 (to - q.2.2)) rfl rfl rfl Dz) ?_;refine aq 22 (bG rfl rfl rfl) ?_;refine aq 23 (AI (r := .int .i64 ((min (to - q.2.2).toNat 4096 / 8 : Nat) : Int)) rfl rfl rfl (Tg hn64)) ?_;refine aq 24 (AI (r := .int .i64 ((chunkN (to - q.2.2).toNat) : Int)) rfl rfl rfl Th) ?_;refine wk 5 ?_;refine AOps.call 26 (hn := AE 2 _ (RH (bL C w (q.2.1.put (AT 1 0))) (Ak ((q.2.1.put (AT 1 0))).blocks))) (r := .tup []) rfl rfl rfl (Av 2 (bL C w q.2.1) (bL C w (q.2.1.put (AT 1 0))) (Ak ((q.2.1.put (AT 1 0))).blocks) rfl Try.func44 (by kernel_rfl) rfl rfl rfl rfl rfl (by decide) (Ag C w _) (Ag C w _) Bs C8 (fun x => Aa _ x) (fun x => Aa _ x) rfl (Fo C w q.2.1 x0 hx0 (by omega) 1 0 (by omega))) ?_;refine wk 4 ?_;refine AOps.call 28 (hn := AE 2 _ (RH (bL C w ((q.2.1.put (AT 1 0)).put (AT 2 8))) (Ak (((q.2.1.put (AT 1 0)).put (AT 2 8))).blocks))) (r := .tup []) rfl rfl rfl (Av 2 (bL C w (q.2.1.put (AT 1 0))) (bL C w ((q.2.1.put (AT 1 0)).put (AT 2 8))) (Ak (((q.2.1.put (AT 1 0)).put (AT 2 8))).blocks) rfl Try.func44 (by kernel_rfl) rfl rfl rfl rfl rfl (by decide) (Ag C w _) (Ag C w _) Bs C8 (fun x => Aa _ x) (fun x => Aa _ x) rfl (Fo C w (q.2.1.put (AT 1 0)) x1 hx1 (by omega) 2 8 (by omega))) ?_
  refine wk 5 ?_;refine aq 31 (Bp Am rfl rfl rfl rfl rfl (r := ((chunkN (to - q.2.2).toNat) : Int)) (by rw [IntKind.wrap_u32]; omega)) ?_;refine AOps.call 32 (hn := AE 2 _ (RH (bL C w (q.2.1.chunk1 (chunkN (to - q.2.2).toNat))) (Ak ((q.2.1.chunk1 (chunkN (to - q.2.2).toNat))).blocks))) (r := .tup []) rfl rfl rfl (Av 2 (bL C w ((q.2.1.put (AT 1 0)).put (AT 2 8))) (bL C w (q.2.1.chunk1 (chunkN (to - q.2.2).toNat))) (Ak ((q.2.1.chunk1 (chunkN (to - q.2.2).toNat))).blocks) rfl Try.func44 (by kernel_rfl) rfl rfl rfl rfl rfl (by decide) (Ag C w _) (Ag C w _) Bs C8 (fun x => Aa _ x) (fun x => Aa _ x) rfl (Fo C w ((q.2.1.put (AT 1 0)).put (AT 2 8)) x2 hx2 (by omega) 3 (chunkN (to - q.2.2).toNat) (by omega))) ?_;refine wk 4 ?_;refine AOps.call 34 (hn := AE 2 _ (RH (bL C w ((q.2.1.chunk1 (chunkN (to - q.2.2).toNat)).opened)) (Ak (((q.2.1.chunk1 (chunkN (to - q.2.2).toNat)).opened)).blocks))) (r := .int .i64 ((q.2.1.chunk1 (chunkN (to - q.2.2).toNat)).blocks.length : Int)) rfl rfl rfl (Av 2 (bL C w (q.2.1.chunk1 (chunkN (to - q.2.2).toNat))) (bL C w ((q.2.1.chunk1 (chunkN (to - q.2.2).toNat)).opened)) (Ak (((q.2.1.chunk1 (chunkN (to - q.2.2).toNat)).opened)).blocks) rfl Try.func28 (by kernel_rfl) rfl rfl rfl rfl rfl (by decide) (Ag C w _) (Ag C w _) Bs C8 (fun x => Aa _ x) (fun x => Aa _ x) rfl (CN C w _ (by have := Gh (q.2.1.chunk1 (chunkN (to - q.2.2).toNat)); omega))) ?_
  refine wk 6 ?_;refine AOps.call 37 (hn := AE 2 _ (RH (bL C w ((q.2.1.chunk1 (chunkN (to - q.2.2).toNat)).opened.jump (q.2.1.chunk1 (chunkN (to - q.2.2).toNat)).blocks.length)) (Ak (((q.2.1.chunk1 (chunkN (to - q.2.2).toNat)).opened.jump (q.2.1.chunk1 (chunkN (to - q.2.2).toNat)).blocks.length)).blocks))) (r := .tup []) rfl rfl rfl (Av 2 (bL C w ((q.2.1.chunk1 (chunkN (to - q.2.2).toNat)).opened)) (bL C w ((q.2.1.chunk1 (chunkN (to - q.2.2).toNat)).opened.jump (q.2.1.chunk1 (chunkN (to - q.2.2).toNat)).blocks.length)) (Ak (((q.2.1.chunk1 (chunkN (to - q.2.2).toNat)).opened.jump (q.2.1.chunk1 (chunkN (to - q.2.2).toNat)).blocks.length)).blocks) rfl Try.func45 (by kernel_rfl) rfl rfl rfl rfl rfl (by decide) (Ag C w _) (Ag C w _) Bs C8 (fun x => Aa _ x) (fun x => Aa _ x) rfl (Pg C w ((q.2.1.chunk1 (chunkN (to - q.2.2).toNat)).opened) x4 hx4 (q.2.1.chunk1 (chunkN (to - q.2.2).toNat)).blocks.length)) ?_
  refine wk 11 ?_;refine AGo.sub (s' := ⟨80, (Ad (Ad (Ad (Ad (Ad Bt 0 (.ptr 2 1 0 0)) 1 (.int .i64 q.2.2)) 2 (.int .i64 to)) 6 (.int .i64 ((chunkN (to - q.2.2).toNat) : Int))) 7 (.int .i64 ((q.2.1.chunk1 (chunkN (to - q.2.2).toNat)).blocks.length : Int))), (fam (nb [.free, .free, (.row false 6 [DJ C w ((q.2.1.chunk1 (chunkN (to - q.2.2).toNat)).chunk2)]), (.row false 5 (Br (((q.2.1.chunk1 (chunkN (to - q.2.2).toNat)).chunk2)).blocks))]) (Ak (((q.2.1.chunk1 (chunkN (to - q.2.2).toNat)).chunk2)).blocks))⟩) (Sub.mk' BH (EA (k0 := 4) rfl MZ C8 (fun c h1 h2 => by rcases (by omega : c = 4 \/ c = 5 \/ c = 6 \/ c = 7 \/ c = 8 \/ c = 9 \/ c = 10 \/ c = 11 \/ c = 12 \/ c = 13 \/ c = 14 \/ c = 15) with rfl | rfl | rfl | rfl | rfl | rfl | rfl | rfl | rfl | rfl | rfl | rfl <;> first | rfl | (try simp only [hputs]; repeat (first | rfl | refine Aw (by exact Af (by omega)) ?_ | refine AP (by omega) ?_))))) ?_
  refine wk 4 ?_;refine Dj (γ := Nat) (kf 4) (fun j => ⟨80, (Ad (Ad (Ad (Ad (Ad (Ad Bt 0 (.ptr 2 1 0 0)) 1 (.int .i64 q.2.2)) 2 (.int .i64 to)) 6 (.int .i64 ((chunkN (to - q.2.2).toNat) : Int))) 7 (.int .i64 ((q.2.1.chunk1 (chunkN (to - q.2.2).toNat)).blocks.length : Int))) 42 (.int .i64 (j : Int))), (fam (nb [.free, .free, (.row false 6 [DJ C w (((q.2.1.chunk1 (chunkN (to - q.2.2).toNat)).chunk2).astores q.2.2 (((chunkN (to - q.2.2).toNat) : Int) - 7) j)]), (.row false 5 (Br ((((q.2.1.chunk1 (chunkN (to - q.2.2).toNat)).chunk2).astores q.2.2 (((chunkN (to - q.2.2).toNat) : Int) - 7) j)).blocks))]) (Ak ((((q.2.1.chunk1 (chunkN (to - q.2.2).toNat)).chunk2).astores q.2.2 (((chunkN (to - q.2.2).toNat) : Int) - 7) j)).blocks))⟩) (fun j => j <= 8) (fun j => 8 - j) 0 (Sub.mk' BH (EA (k0 := 4) rfl MZ PC (fun c h1 h2 => by rcases (by omega : c = 4 \/ c = 5 \/ c = 6 \/ c = 7 \/ c = 8 \/ c = 9 \/ c = 10 \/ c = 11 \/ c = 12 \/ c = 13 \/ c = 14 \/ c = 15) with rfl | rfl | rfl | rfl | rfl | rfl | rfl | rfl | rfl | rfl | rfl | rfl <;> first | rfl | (try simp only [hputs]; repeat (first | rfl | refine Aw (by exact Af (by omega)) ?_ | refine AP (by omega) ?_))))) (Nat.zero_le _) (fun g b hb => Fk (k0 := 4) rfl hb) ?_
  intro j hj
  refine wk 5 ?_;refine asp 43 (fun hb3 => ?_) fun hb3 => ?_
  .
   refine act ?_
   have hjl : j < 8 := by have h := hb3; simp at h; omega
   obtain ⟨y, hy⟩ := En u4 q.2.2 (((chunkN (to - q.2.2).toNat) : Int) - 7) j
   have cj := Fm u4 q.2.2 (((chunkN (to - q.2.2).toNat) : Int) - 7) j
   refine wk 12 ?_;refine aq 48 (AI (r := .int .i64 (q.2.2 + (j : Int))) rfl rfl rfl Dz) ?_;refine wk 1 ?_;refine aq 50 (AI (r := .int .i64 (((chunkN (to - q.2.2).toNat) : Int) - 8)) rfl rfl rfl Dz) ?_;refine aq 51 (AI (r := .int .i64 (((chunkN (to - q.2.2).toNat) : Int) - 7)) rfl rfl rfl Wj) ?_;refine wk 1 ?_;refine AOps.call 53 (hn := AE 2 _ (RH (bL C w ((((q.2.1.chunk1 (chunkN (to - q.2.2).toNat)).chunk2).astores q.2.2 (((chunkN (to - q.2.2).toNat) : Int) - 7) j).put (BF 1 0 (q.2.2 + (j : Int)) (((chunkN (to - q.2.2).toNat) : Int) - 7)))) (Ak (((((q.2.1.chunk1 (chunkN (to - q.2.2).toNat)).chunk2).astores q.2.2 (((chunkN (to - q.2.2).toNat) : Int) - 7) j).put (BF 1 0 (q.2.2 + (j : Int)) (((chunkN (to - q.2.2).toNat) : Int) - 7)))).blocks))) (r := .tup []) rfl rfl rfl (Av 2 (bL C w (((q.2.1.chunk1 (chunkN (to - q.2.2).toNat)).chunk2).astores q.2.2 (((chunkN (to - q.2.2).toNat) : Int) - 7) j)) (bL C w ((((q.2.1.chunk1 (chunkN (to - q.2.2).toNat)).chunk2).astores q.2.2 (((chunkN (to - q.2.2).toNat) : Int) - 7) j).put (BF 1 0 (q.2.2 + (j : Int)) (((chunkN (to - q.2.2).toNat) : Int) - 7)))) (Ak (((((q.2.1.chunk1 (chunkN (to - q.2.2).toNat)).chunk2).astores q.2.2 (((chunkN (to - q.2.2).toNat) : Int) - 7) j).put (BF 1 0 (q.2.2 + (j : Int)) (((chunkN (to - q.2.2).toNat) : Int) - 7)))).blocks) rfl Try.func46 (by kernel_rfl) rfl rfl rfl rfl rfl (by decide) (Ag C w _) (Ag C w _) Bs C8 (fun x => Aa _ x) (fun x => Aa _ x) rfl (DT C w (((q.2.1.chunk1 (chunkN (to - q.2.2).toNat)).chunk2).astores q.2.2 (((chunkN (to - q.2.2).toNat) : Int) - 7) j) y hy (BF 1 0 (q.2.2 + (j : Int)) (((chunkN (to - q.2.2).toNat) : Int) - 7)) (Int.le_refl 0) (show (0 : Int) <= 1000000000 by decide) (by have := Dx hy; omega))) ?_
   refine wk 2 ?_;refine aq 54 (Cc rfl rfl hjl (by simp only [maxLen]; omega)) ?_;refine wk 2 ?_;exact ⟨j+1, DropK.mk' PB (Hc (k0 := 4) rfl MZ PC (fun x_ => Aa _ x_)), hjl, by omega⟩
  refine BM ?_
  have hje : j = 8 := by have h := hb3; simp at h; omega
  subst hje
  refine wk 4 ?_;refine AOps.call 56 (hn := AE 2 _ (RH (bL C w ((((q.2.1.chunk1 (chunkN (to - q.2.2).toNat)).chunk2).astores q.2.2 (((chunkN (to - q.2.2).toNat) : Int) - 7) 8).put (AS 4 1 1 2))) (Ak (((((q.2.1.chunk1 (chunkN (to - q.2.2).toNat)).chunk2).astores q.2.2 (((chunkN (to - q.2.2).toNat) : Int) - 7) 8).put (AS 4 1 1 2))).blocks))) (r := .tup []) rfl rfl rfl (Av 2 (bL C w (((q.2.1.chunk1 (chunkN (to - q.2.2).toNat)).chunk2).astores q.2.2 (((chunkN (to - q.2.2).toNat) : Int) - 7) 8)) (bL C w ((((q.2.1.chunk1 (chunkN (to - q.2.2).toNat)).chunk2).astores q.2.2 (((chunkN (to - q.2.2).toNat) : Int) - 7) 8).put (AS 4 1 1 2))) (Ak (((((q.2.1.chunk1 (chunkN (to - q.2.2).toNat)).chunk2).astores q.2.2 (((chunkN (to - q.2.2).toNat) : Int) - 7) 8).put (AS 4 1 1 2))).blocks) rfl Try.func47 (by kernel_rfl) rfl rfl rfl rfl rfl (by decide) (Ag C w _) (Ag C w _) Bs C8 (fun x => Aa _ x) (fun x => Aa _ x) rfl (Hi C w (((q.2.1.chunk1 (chunkN (to - q.2.2).toNat)).chunk2).astores q.2.2 (((chunkN (to - q.2.2).toNat) : Int) - 7) 8) y8 hy8 (by omega) 4 1 1 2 (by omega))) ?_
  refine wk 4 ?_;refine AOps.call 58 (hn := AE 2 _ (RH (bL C w (((((q.2.1.chunk1 (chunkN (to - q.2.2).toNat)).chunk2).astores q.2.2 (((chunkN (to - q.2.2).toNat) : Int) - 7) 8).put (AS 4 1 1 2)).put (AS 14 4 1 3))) (Ak ((((((q.2.1.chunk1 (chunkN (to - q.2.2).toNat)).chunk2).astores q.2.2 (((chunkN (to - q.2.2).toNat) : Int) - 7) 8).put (AS 4 1 1 2)).put (AS 14 4 1 3))).blocks))) (r := .tup []) rfl rfl rfl (Av 2 (bL C w ((((q.2.1.chunk1 (chunkN (to - q.2.2).toNat)).chunk2).astores q.2.2 (((chunkN (to - q.2.2).toNat) : Int) - 7) 8).put (AS 4 1 1 2))) (bL C w (((((q.2.1.chunk1 (chunkN (to - q.2.2).toNat)).chunk2).astores q.2.2 (((chunkN (to - q.2.2).toNat) : Int) - 7) 8).put (AS 4 1 1 2)).put (AS 14 4 1 3))) (Ak ((((((q.2.1.chunk1 (chunkN (to - q.2.2).toNat)).chunk2).astores q.2.2 (((chunkN (to - q.2.2).toNat) : Int) - 7) 8).put (AS 4 1 1 2)).put (AS 14 4 1 3))).blocks) rfl Try.func47 (by kernel_rfl) rfl rfl rfl rfl rfl (by decide) (Ag C w _) (Ag C w _) Bs C8 (fun x => Aa _ x) (fun x => Aa _ x) rfl (Hi C w ((((q.2.1.chunk1 (chunkN (to - q.2.2).toNat)).chunk2).astores q.2.2 (((chunkN (to - q.2.2).toNat) : Int) - 7) 8).put (AS 4 1 1 2)) y9 hy9 (by omega) 14 4 1 3 (by omega))) ?_
  refine wk 4 ?_;refine AOps.call 60 (hn := AE 2 _ (RH (bL C w ((((((q.2.1.chunk1 (chunkN (to - q.2.2).toNat)).chunk2).astores q.2.2 (((chunkN (to - q.2.2).toNat) : Int) - 7) 8).put (AS 4 1 1 2)).put (AS 14 4 1 3)).opened)) (Ak (((((((q.2.1.chunk1 (chunkN (to - q.2.2).toNat)).chunk2).astores q.2.2 (((chunkN (to - q.2.2).toNat) : Int) - 7) 8).put (AS 4 1 1 2)).put (AS 14 4 1 3)).opened)).blocks))) (r := .int .i64 ((((((q.2.1.chunk1 (chunkN (to - q.2.2).toNat)).chunk2).astores q.2.2 (((chunkN (to - q.2.2).toNat) : Int) - 7) 8).put (AS 4 1 1 2)).put (AS 14 4 1 3)).blocks.length : Int)) rfl rfl rfl (Av 2 (bL C w (((((q.2.1.chunk1 (chunkN (to - q.2.2).toNat)).chunk2).astores q.2.2 (((chunkN (to - q.2.2).toNat) : Int) - 7) 8).put (AS 4 1 1 2)).put (AS 14 4 1 3))) (bL C w ((((((q.2.1.chunk1 (chunkN (to - q.2.2).toNat)).chunk2).astores q.2.2 (((chunkN (to - q.2.2).toNat) : Int) - 7) 8).put (AS 4 1 1 2)).put (AS 14 4 1 3)).opened)) (Ak (((((((q.2.1.chunk1 (chunkN (to - q.2.2).toNat)).chunk2).astores q.2.2 (((chunkN (to - q.2.2).toNat) : Int) - 7) 8).put (AS 4 1 1 2)).put (AS 14 4 1 3)).opened)).blocks) rfl Try.func28 (by kernel_rfl) rfl rfl rfl rfl rfl (by decide) (Ag C w _) (Ag C w _) Bs C8 (fun x => Aa _ x) (fun x => Aa _ x) rfl (CN C w _ (by have := Gh (((((q.2.1.chunk1 (chunkN (to - q.2.2).toNat)).chunk2).astores q.2.2 (((chunkN (to - q.2.2).toNat) : Int) - 7) 8).put (AS 4 1 1 2)).put (AS 14 4 1 3)); omega))) ?_
  refine wk 7 ?_;refine AOps.call 64 (hn := AE 2 _ (RH (bL C w ((((((q.2.1.chunk1 (chunkN (to - q.2.2).toNat)).chunk2).astores q.2.2 (((chunkN (to - q.2.2).toNat) : Int) - 7) 8).put (AS 4 1 1 2)).put (AS 14 4 1 3)).opened.fork 4 (q.2.1.chunk1 (chunkN (to - q.2.2).toNat)).blocks.length (((((q.2.1.chunk1 (chunkN (to - q.2.2).toNat)).chunk2).astores q.2.2 (((chunkN (to - q.2.2).toNat) : Int) - 7) 8).put (AS 4 1 1 2)).put (AS 14 4 1 3)).blocks.length)) (Ak (((((((q.2.1.chunk1 (chunkN (to - q.2.2).toNat)).chunk2).astores q.2.2 (((chunkN (to - q.2.2).toNat) : Int) - 7) 8).put (AS 4 1 1 2)).put (AS 14 4 1 3)).opened.fork 4 (q.2.1.chunk1 (chunkN (to - q.2.2).toNat)).blocks.length (((((q.2.1.chunk1 (chunkN (to - q.2.2).toNat)).chunk2).astores q.2.2 (((chunkN (to - q.2.2).toNat) : Int) - 7) 8).put (AS 4 1 1 2)).put (AS 14 4 1 3)).blocks.length)).blocks))) (r := .tup []) rfl rfl rfl (Av 2 (bL C w ((((((q.2.1.chunk1 (chunkN (to - q.2.2).toNat)).chunk2).astores q.2.2 (((chunkN (to - q.2.2).toNat) : Int) - 7) 8).put (AS 4 1 1 2)).put (AS 14 4 1 3)).opened)) (bL C w ((((((q.2.1.chunk1 (chunkN (to - q.2.2).toNat)).chunk2).astores q.2.2 (((chunkN (to - q.2.2).toNat) : Int) - 7) 8).put (AS 4 1 1 2)).put (AS 14 4 1 3)).opened.fork 4 (q.2.1.chunk1 (chunkN (to - q.2.2).toNat)).blocks.length (((((q.2.1.chunk1 (chunkN (to - q.2.2).toNat)).chunk2).astores q.2.2 (((chunkN (to - q.2.2).toNat) : Int) - 7) 8).put (AS 4 1 1 2)).put (AS 14 4 1 3)).blocks.length)) (Ak (((((((q.2.1.chunk1 (chunkN (to - q.2.2).toNat)).chunk2).astores q.2.2 (((chunkN (to - q.2.2).toNat) : Int) - 7) 8).put (AS 4 1 1 2)).put (AS 14 4 1 3)).opened.fork 4 (q.2.1.chunk1 (chunkN (to - q.2.2).toNat)).blocks.length (((((q.2.1.chunk1 (chunkN (to - q.2.2).toNat)).chunk2).astores q.2.2 (((chunkN (to - q.2.2).toNat) : Int) - 7) 8).put (AS 4 1 1 2)).put (AS 14 4 1 3)).blocks.length)).blocks) rfl Try.func48 (by kernel_rfl) rfl rfl rfl rfl rfl (by decide) (Ag C w _) (Ag C w _) Bs C8 (fun x => Aa _ x) (fun x => Aa _ x) rfl (GV C w ((((((q.2.1.chunk1 (chunkN (to - q.2.2).toNat)).chunk2).astores q.2.2 (((chunkN (to - q.2.2).toNat) : Int) - 7) 8).put (AS 4 1 1 2)).put (AS 14 4 1 3)).opened) y11 hy11 4 (q.2.1.chunk1 (chunkN (to - q.2.2).toNat)).blocks.length (((((q.2.1.chunk1 (chunkN (to - q.2.2).toNat)).chunk2).astores q.2.2 (((chunkN (to - q.2.2).toNat) : Int) - 7) 8).put (AS 4 1 1 2)).put (AS 14 4 1 3)).blocks.length)) ?_
  refine wk 9 ?_;refine AGo.sub (s' := ⟨80, (Ad (Ad (Ad (Ad (Ad (Ad Bt 0 (.ptr 2 1 0 0)) 1 (.int .i64 q.2.2)) 2 (.int .i64 to)) 6 (.int .i64 ((chunkN (to - q.2.2).toNat) : Int))) 7 (.int .i64 ((q.2.1.chunk1 (chunkN (to - q.2.2).toNat)).blocks.length : Int))) 9 (.int .i64 ((((((q.2.1.chunk1 (chunkN (to - q.2.2).toNat)).chunk2).astores q.2.2 (((chunkN (to - q.2.2).toNat) : Int) - 7) 8).put (AS 4 1 1 2)).put (AS 14 4 1 3)).blocks.length : Int))), (fam (nb [.free, .free, (.row false 6 [DJ C w (q.2.1.chunk q.2.2 (chunkN (to - q.2.2).toNat))]), (.row false 5 (Br ((q.2.1.chunk q.2.2 (chunkN (to - q.2.2).toNat))).blocks))]) (Ak ((q.2.1.chunk q.2.2 (chunkN (to - q.2.2).toNat))).blocks))⟩) (Sub.mk' BH (EA (k0 := 4) rfl MZ C8 (fun c h1 h2 => by rcases (by omega : c = 4 \/ c = 5 \/ c = 6 \/ c = 7 \/ c = 8 \/ c = 9 \/ c = 10 \/ c = 11 \/ c = 12 \/ c = 13 \/ c = 14 \/ c = 15) with rfl | rfl | rfl | rfl | rfl | rfl | rfl | rfl | rfl | rfl | rfl | rfl <;> first | rfl | (try simp only [hputs]; repeat (first | rfl | refine Aw (by exact Af (by omega)) ?_ | refine AP (by omega) ?_))))) ?_
  refine wk 3 ?_;refine aq 71 (AI (r := .int .i64 (q.2.2 + ((chunkN (to - q.2.2).toNat) : Int))) rfl rfl rfl Dz) ?_;refine wk 2 ?_;exact ⟨(q.1 - 1, (q.2.1.chunk q.2.2 (chunkN (to - q.2.2).toNat)), q.2.2 + ((chunkN (to - q.2.2).toNat) : Int)), DropK.mk' PB (Hc (k0 := 4) rfl MZ PC (fun x_ => Aa _ x_)), hN, (hQ.i.next hn64).2⟩
 refine BM ?_
 have hn64 : ¬ 64 < (to - q.2.2).toNat := by have h := hb2; simp at h; omega
 have hlast := hQ.i.last hn64
 have hc0 := hQ.cnt
 have hqa := hQ.a0
 have hqt := hQ.a1
 refine wk 2 ?_;refine Dj (γ := Nat) (kf 4) (fun j => ⟨80, (Ad (Ad (Ad Bt 0 (.ptr 2 1 0 0)) 1 (.int .i64 (q.2.2 + (j : Int)))) 2 (.int .i64 to)), (fam (nb [.free, .free, (.row false 6 [DJ C w (q.2.1.zeros q.2.2 j)]), (.row false 5 (Br ((q.2.1.zeros q.2.2 j)).blocks))]) (Ak ((q.2.1.zeros q.2.2 j)).blocks))⟩) (fun j => q.2.2 + (j : Int) <= to) (fun j => (to - (q.2.2 + (j : Int))).toNat) 0 (Sub.mk' (by repeat (first | exact ESub.new _ | refine ESub.put ?_ (by first | rfl | exact congrArg (fun n => some (AV.int .i64 n)) (by omega)))) (EA (k0 := 4) rfl MZ PC (fun c h1 h2 => by rcases (by omega : c = 4 \/ c = 5 \/ c = 6 \/ c = 7 \/ c = 8 \/ c = 9 \/ c = 10 \/ c = 11 \/ c = 12 \/ c = 13 \/ c = 14 \/ c = 15) with rfl | rfl | rfl | rfl | rfl | rfl | rfl | rfl | rfl | rfl | rfl | rfl <;> first | rfl | (try simp only [hputs]; repeat (first | rfl | refine Aw (by exact Af (by omega)) ?_ | refine AP (by omega) ?_))))) (by omega) (fun g b hb => Fk (k0 := 4) rfl hb) ?_
 intro j hj
 refine wk 7 ?_;refine asp 74 (fun hb4 => ?_) fun hb4 => ?_
 .
  refine act ?_
  have hjt : q.2.2 + (j : Int) < to := by have h := hb4; simpa using h
  obtain ⟨z, hz⟩ := He hQ.cur q.2.2 j
  have cz := Jj hQ.cur q.2.2 j
  refine wk 6 ?_;refine AOps.call 79 (hn := AE 2 _ (RH (bL C w ((q.2.1.zeros q.2.2 j).put (AM (q.2.2 + (j : Int)) 0))) (Ak (((q.2.1.zeros q.2.2 j).put (AM (q.2.2 + (j : Int)) 0))).blocks))) (r := .tup []) rfl rfl rfl (Av 2 (bL C w (q.2.1.zeros q.2.2 j)) (bL C w ((q.2.1.zeros q.2.2 j).put (AM (q.2.2 + (j : Int)) 0))) (Ak (((q.2.1.zeros q.2.2 j).put (AM (q.2.2 + (j : Int)) 0))).blocks) rfl Try.func49 (by kernel_rfl) rfl rfl rfl rfl rfl (by decide) (Ag C w _) (Ag C w _) Bs C8 (fun x => Aa _ x) (fun x => Aa _ x) rfl (FR C w (q.2.1.zeros q.2.2 j) z hz (by omega) (q.2.2 + (j : Int)) 0)) ?_;refine wk 3 ?_;refine aq 76 (AI (r := .int .i64 (q.2.2 + ((j + 1 : Nat) : Int))) rfl rfl rfl Wj) ?_;refine wk 2 ?_;exact ⟨j+1, DropK.mk' PB (Hc (k0 := 4) rfl MZ PC (fun x_ => Aa _ x_)), (by omega), by omega⟩
 refine BM ?_
 have hjt : j = (to - q.2.2).toNat := by have h := hb4; simp at h; omega
 subst hjt
 rw [<- hlast]
 refine wk 1 ?_;exact J0
theorem LA (C : Core) (hC : C.Ok) (hr : JX C) (hok : ∀ (i : Nat) g, C.funcs[i]? = some g -> CS.okL C i g.word g.body) (hp : ∀ g ∈ C.funcs, CS.partsL g.body <= 1000000) : APure Try.prog 14 [.agg C.cells] (fun r => r = .agg C.build.cells) := by
 have hn1 := hr.n1
 have hw0 := hr.w0
 have hw1 := hr.w1
 have hml : (C.funcs.map CFn.cells).length = C.funcs.length := List.length_map _
 refine APure.of_body (n := 84) Am Try.func14 rfl rfl ?_;refine HV ?_;refine ax 1 (F9 2 0) ?_;refine ax 2 (KJ Am 1) ?_;refine wk 6 ?_;refine ax 3 (KJ Am 4) ?_;refine wk 11 ?_;refine Dj (γ := Nat) (kf 5) (fun k => ⟨84, (Ad (Ad (Ad (Ad (Ad (Ad Bt 1 (.ptr 0 1 0 0)) 2 (.ptr 1 1 0 0)) 3 (.ptr 4 1 0 0)) 13 (.lst false (C.funcs.map CFn.cells))) 14 (.int .i64 ((C.funcs.map CFn.cells).length : Int))) 15 (.int .i64 (k : Int))), (fam (nb [(.row false 2 [C.cells]), (.row false 2 [[.int .i64 0, .nil]]), .free, .free, (.row false 2 [[.int .i64 (mW C k), .nil]])]) fFree)⟩) (fun k => k <= C.funcs.length) (fun k => C.funcs.length - k) 0 (Sub.mk' BH (EA (k0 := 5) rfl (by repeat (first | exact trivial | refine ⟨⟨by rfl, by first | rfl | exact In _ _ _ _⟩, ?_⟩)) (fun x_ => by (try simp only [hputs]); repeat (first | rfl | exact AJ _ _ _ | refine Aw (by exact Af (by omega)) ?_)) (fun c h1 h2 => by rcases (by omega : c = 5 \/ c = 6 \/ c = 7 \/ c = 8 \/ c = 9 \/ c = 10 \/ c = 11 \/ c = 12 \/ c = 13 \/ c = 14 \/ c = 15) with rfl | rfl | rfl | rfl | rfl | rfl | rfl | rfl | rfl | rfl | rfl <;> first | rfl | (try simp only [hputs]; repeat (first | rfl | refine Aw (by exact Af (by omega)) ?_ | refine AP (by omega) ?_))))) (Nat.zero_le _) (fun g b hb => Fk (k0 := 5) rfl hb) ?_
 intro k hk
 refine wk 5 ?_;refine asp 16 (fun hb1 => ?_) fun hb1 => ?_
 .
  refine act ?_
  have hkl : k < C.funcs.length := Bi hb1
  obtain ⟨g, hg⟩ := At hkl
  refine wk 5 ?_;refine aq 17 (Ae Am rfl rfl rfl rfl rfl rfl (Int.natCast_nonneg _) (Cg (by assumption)) rfl) ?_;refine wk 1 ?_;refine ax 5 (KJ Am 6) ?_;refine wk 7 ?_;refine asp 20 (fun hb2 => ?_) fun hb2 => ?_
  .
   refine act ?_
   have hmw := YF hg hb2
   refine wk 3 ?_;refine aq 23 (AI (r := .int .i64 (C.words + 1)) rfl rfl rfl Dz) ?_;refine wk 4 ?_;exact ZE
  refine BM ?_
  have hmw := bK hg hb2
  refine wk 2 ?_;exact ZE
 refine BM ?_
 have hge := Bj hb1
 have hmw := YG hge
 refine wk 3 ?_
 rw [hmw]
 refine AGo.ghost (DW 4 (es' := [[.int .i64 C.m, HF 5 []]]) rfl rfl (Wm _ 5)) ?_;refine wk 7 ?_;refine Dj (γ := Nat) kB (fun k => ⟨84, (Ad (Ad (Ad (Ad (Ad (Ad Bt 1 (.ptr 0 1 0 0)) 2 (.ptr 1 1 0 0)) 3 (.ptr 4 1 0 0)) 27 (.lst false (C.funcs.map CFn.cells))) 28 (.int .i64 ((C.funcs.map CFn.cells).length : Int))) 29 (.int .i64 (k : Int))), (hB (.row false 2 [C.cells]) (.row false 2 [[.int .i64 0, .nil]]) (.row false 2 [[.int .i64 C.m, HF 5 (bT C k)]]) (Mc 2 (bT C k)))⟩) (fun k => k <= C.funcs.length) (fun k => C.funcs.length - k) 0 (Sub.mk' BH (EA (k0 := 6) rfl (by repeat (first | exact trivial | refine ⟨⟨by first | rfl | (rw [WP]; rfl) | (rw [hmw]; rfl), by first | rfl | exact F1 rfl | exact Db _ _⟩, ?_⟩)) (fun x_ => by (try simp only [hputs]); repeat (first | exact AJ _ _ _ | refine Aw (by exact Af (by omega)) ?_ | refine AP (by omega) ?_)) (fun c h1 h2 => by rcases (by omega : c = 6 \/ c = 7 \/ c = 8 \/ c = 9 \/ c = 10 \/ c = 11 \/ c = 12 \/ c = 13 \/ c = 14 \/ c = 15) with rfl | rfl | rfl | rfl | rfl | rfl | rfl | rfl | rfl | rfl <;> first | rfl | (try simp only [hputs]; repeat (first | rfl | refine Aw (by exact Af (by omega)) ?_ | refine AP (by omega) ?_))))) (Nat.zero_le _) (fun k => RB _ _ _ _) ?_
 intro k hk
 refine wk 5 ?_;refine asp 30 (fun hb3 => ?_) fun hb3 => ?_
 .
  refine act ?_
  have hkl : k < C.funcs.length := Bi hb3
  obtain ⟨g, hg⟩ := At hkl
  have hgm := List.mem_of_getElem? hg
  have hgk := hC.funcs g hgm
  have hgo := hok k g hg
  have hgp := hp g hgm
  obtain ⟨f1, f2, f3, f4, f5⟩ := hr.fn g hgm
  refine wk 6 ?_;refine aq 32 (Ae Am rfl rfl rfl rfl rfl rfl (Int.natCast_nonneg _) (Cg (by assumption)) rfl) ?_;refine wk 1 ?_;refine ax 7 (KJ Am 6) ?_;refine wk 12 ?_;refine ax 41 (F9 6 2) ?_;refine wk 3 ?_;refine AGo.ghost (.dryCell 2 0 4 3 5 false rfl rfl rfl rfl rfl (by decide)) ?_;refine wk 2 ?_;refine AOps.call 43 (hn := AE 2 _ (RH (bL C g.word bd0) (Ak (bd0).blocks))) (r := .int .i64 0) rfl rfl rfl (Av 2 (bL C g.word (⟨0, [], 0⟩ : Bd)) (bL C g.word bd0) (Ak (bd0).blocks) rfl Try.func28 (by kernel_rfl) rfl rfl rfl rfl rfl (by decide) (Ag C g.word _) (Ag C g.word _) Bs C8 (fun x => Aa _ x) (fun x => Aa _ x) rfl (CN C g.word (⟨0, [], 0⟩ : Bd) (by decide))) ?_;refine wk 8 ?_;refine aq 48 (AI (r := .int .i64 (((C.funcs.map CFn.cells).length : Int) - 1)) rfl rfl rfl Dz) ?_;refine wk 2 ?_;refine AGo.join (γ := Bd) (fun q => ⟨84, (Ad (Ad (Ad (Ad (Ad (Ad (Ad (Ad (Ad Bt 1 (.ptr 0 1 0 0)) 2 (.ptr 1 1 0 0)) 3 (.ptr 4 1 0 0)) 6 (.int .i64 (k : Int))) 7 (.ptr 6 1 0 0)) 8 (.ptr 2 1 0 0)) 27 (.lst false (C.funcs.map CFn.cells))) 28 (.int .i64 ((C.funcs.map CFn.cells).length : Int))) 29 (.int .i64 (k : Int))), (fam (nb [(.row false 2 [C.cells]), (.row false 2 [[.int .i64 0, .nil]]), (.row false 6 [DJ C g.word q]), (.row false 5 (Br (q).blocks)), (.row false 2 [[.int .i64 C.m, HF 5 (bT C k)]]), (Mc 2 (bT C k)), (.row false 5 [g.cells])]) (Ak (q).blocks))⟩) (fun q => q = Gd C g (k + 1 == C.funcs.length)) ?_ ?_
  .
   refine asp 49 (fun hb4 => ?_) fun hb4 => ?_
   .
    refine act ?_
    have hlast : (k + 1 == C.funcs.length) = false := by have h := hb4; simp at h |-; omega
    refine wk 6 ?_;refine aq 55 (AI (r := .int .i64 (g.first + g.params)) rfl rfl rfl Dz) ?_;refine wk 4 ?_;refine aq 60 (AI (r := .int .i64 (g.first + g.slots)) rfl rfl rfl Dz) ?_;refine AOps.call 61 (hn := AE 2 _ (RH (bL C g.word (bd0.nought (g.first + g.params) (g.first + g.slots - (g.first + g.params)).toNat)) (Ak ((bd0.nought (g.first + g.params) (g.first + g.slots - (g.first + g.params)).toNat)).blocks))) (r := .tup []) rfl rfl rfl (Av 2 (bL C g.word bd0) (bL C g.word (bd0.nought (g.first + g.params) (g.first + g.slots - (g.first + g.params)).toNat)) (Ak ((bd0.nought (g.first + g.params) (g.first + g.slots - (g.first + g.params)).toNat)).blocks) rfl Try.func29 (by kernel_rfl) rfl rfl rfl rfl rfl (by decide) (Ag C g.word _) (Ag C g.word _) Bs C8 (fun x => Aa _ x) (fun x => Aa _ x) rfl (QQ C g.word bd0 (g.first + g.params) (g.first + g.slots) Y7 (by omega) (by omega) (by omega) (by omega) (by rw [Vy]; omega))) ?_
    refine an ?_;exact ⟨(bd0.nought (g.first + g.params) (g.first + g.slots - (g.first + g.params)).toNat), Sub.mk' BH (EA (k0 := 7) rfl (by repeat (first | exact trivial | refine ⟨⟨by first | rfl | exact Bv rfl, by first | rfl | exact B8 (fun x_ => kf_hi 7 x_) _ | exact F1 rfl | exact Db _ _⟩, ?_⟩)) C8 (fun c h1 h2 => by rcases (by omega : c = 7 \/ c = 8 \/ c = 9 \/ c = 10 \/ c = 11 \/ c = 12 \/ c = 13 \/ c = 14 \/ c = 15) with rfl | rfl | rfl | rfl | rfl | rfl | rfl | rfl | rfl <;> first | rfl | (try simp only [hputs]; repeat (first | rfl | refine Aw (by exact Af (by omega)) ?_ | refine AP (by omega) ?_)))), (by unfold Gd; rw [hlast]; show bd0.nought _ _ = bd0.nought _ _; congr 2; omega)⟩
   refine BM ?_
   have hlast : (k + 1 == C.funcs.length) = true := by have h := hb4; simp at h |-; omega
   refine V4 ?_;exact ⟨bd0, Sub.mk' BH (EA (k0 := 7) rfl (by repeat (first | exact trivial | refine ⟨⟨by first | rfl | exact Bv rfl, by first | rfl | exact B8 (fun x_ => kf_hi 7 x_) _ | exact F1 rfl | exact Db _ _⟩, ?_⟩)) C8 (fun c h1 h2 => by rcases (by omega : c = 7 \/ c = 8 \/ c = 9 \/ c = 10 \/ c = 11 \/ c = 12 \/ c = 13 \/ c = 14 \/ c = 15) with rfl | rfl | rfl | rfl | rfl | rfl | rfl | rfl | rfl <;> first | rfl | (try simp only [hputs]; repeat (first | rfl | refine Aw (by exact Af (by omega)) ?_ | refine AP (by omega) ?_)))), (by unfold Gd; rw [hlast]; rfl)⟩
  intro q hq
  have hqp : Pl q := by rw [hq]; exact fnStart_pl _ _ _
  have hqc : q.cnt <= 2 + (g.slots - g.params).toNat := by rw [hq]; exact OT _ _ _
  have hcs := D9 (C := C) (w := g.word) (l := g.body) (fun e _ => Fa e.parts e (Nat.le_refl _)) q
  obtain ⟨z, hz⟩ := (Gx hgo hqp).cur
  have hfb : Cv C g (k + 1 == C.funcs.length) = ⟨((CS.buildL C g.word g.body q).leave C g.word).regs, ((CS.buildL C g.word g.body q).leave C g.word).blocks⟩ := by rw [hq]; rfl
  have hbt := Xn hg
  rw [hfb] at hbt
  refine wk 5 ?_;refine AOps.call 65 (hn := AE 2 _ (RH (bL C g.word (CS.buildL C g.word g.body q)) (Ak ((CS.buildL C g.word g.body q)).blocks))) (r := .tup []) rfl rfl rfl (Av 2 (bL C g.word q) (bL C g.word (CS.buildL C g.word g.body q)) (Ak ((CS.buildL C g.word g.body q)).blocks) rfl Try.func30 (by kernel_rfl) rfl rfl rfl rfl rfl (by decide) (Ag C g.word _) (Ag C g.word _) Bs C8 (fun x => Aa _ x) (fun x => Aa _ x) rfl (Jo C g.word k g.body (fun x hx b hP hc => LB C g.word k hr x.parts x (Nat.le_refl _) (sokL_mem hgo hx) (hgk.body x hx) b hP hc) hgo hgk.len q hqp (by omega))) ?_;refine wk 4 ?_;refine AOps.call 67 (hn := AE 2 _ (RH (bL C g.word ((CS.buildL C g.word g.body q).leave C g.word)) (Ak (((CS.buildL C g.word g.body q).leave C g.word)).blocks))) (r := .tup []) rfl rfl rfl (Av 2 (bL C g.word (CS.buildL C g.word g.body q)) (bL C g.word ((CS.buildL C g.word g.body q).leave C g.word)) (Ak (((CS.buildL C g.word g.body q).leave C g.word)).blocks) rfl Try.func31 (by kernel_rfl) rfl rfl rfl rfl rfl (by decide) (Ag C g.word _) (Ag C g.word _) Bs C8 (fun x => Aa _ x) (fun x => Aa _ x) rfl (MQ C g.word (CS.buildL C g.word g.body q) z hz (by omega))) ?_
  refine an ?_;refine AGo.ghost (Pq C g.word ((CS.buildL C g.word g.body q).leave C g.word) (Bv rfl) (Bv rfl) (fun x_ => (BE _ _ _ x_).trans (AJ _ _ _))) ?_;refine wk 12 ?_;refine dx 79 (D4 Am rfl rfl rfl rfl rfl rfl (by decide) rfl rfl rfl rfl rfl rfl) ?_;refine dx 80 (o_append1J Am (b := 5) (es := bT C k) rfl rfl rfl rfl rfl rfl rfl rfl rfl rfl rfl (Nat.zero_lt_succ _) (Xo C k) (Xm C k) rfl rfl (by have := VN C k; show (_ + 1) * 32 <= _; omega) (by have := VN C k; simp only [maxLen]; omega)) ?_;refine wk 1 ?_;refine DOps.w rfl rfl (UI Am rfl rfl rfl rfl rfl rfl rfl rfl rfl (Sg _ _) (by decide) (Sh _ _) (by intro h; cases h)) ?_;refine wk 2 ?_;refine aq 82 (Cc rfl rfl hkl (by simp only [maxLen]; omega)) ?_;refine wk 2 ?_;exact ⟨k+1, DropK.mk' PB (WV Yg Yg (by first | exact congrArg (fun es => some (AObj.row false 2 [[.int .i64 C.m, HF 5 es]])) hbt | ((try simp only [hputs]); repeat (first | rfl | exact AA _ _ _ | refine Aw (by exact Af (by omega)) ?_ | refine AP (by omega) ?_ | refine (GP _ (fun i_ _ => by first | omega | (dsimp only; omega))).trans ?_))) (by first | exact congrArg (fun es => some (Mc 2 es)) hbt | ((try simp only [hputs]); repeat (first | rfl | exact AA _ _ _ | refine Aw (by exact Af (by omega)) ?_ | refine AP (by omega) ?_ | refine (GP _ (fun i_ _ => by first | omega | (dsimp only; omega))).trans ?_))) rfl rfl (F1 rfl) (Db _ _)), hkl, by omega⟩
 refine BM ?_
 have hge := Bj hb3
 refine wk 2 ?_;refine AGo.ghost (.endCell 4 1 5 rfl rfl rfl (by decide)) ?_
 rw [Y8 hge]
 refine wk 5 ?_;exact XW
theorem Ej (C : Core) (a n : Int) (h0 : 0 <= C.words) (h1 : C.words <= 1000000) : APure Try.prog 62 [.agg C.cells, .int .i64 a, .int .i64 n] (fun r => r = .bool (IT C a n)) := by
 refine APure.of_body (n := 27) Am Try.func62 rfl rfl ?_;refine HV ?_;refine ax 3 (F9 2 0) ?_;refine wk 7 ?_;refine A7 9 (fun hb1 => ?_) fun hb1 => ?_
 .
  refine wk 4 ?_;refine A7 13 (fun hb2 => ?_) fun hb2 => ?_
  .
   refine wk 6 ?_;refine A7 19 (fun hb3 => ?_) fun hb3 => ?_
   .
    refine wk 9 ?_;exact Wc
   refine wk 9 ?_;exact Wc
  refine wk 15 ?_;exact Wc
 refine wk 19 ?_;exact Wc
theorem JT (C : Core) (f g args : Int) (word : Bool) (h0 : 0 <= g -> g < f -> ∃ fn, C.funcs[g.toNat]? = some fn) : APure Try.prog 85 [.agg C.cells, .int .i64 f, .int .i64 g, .int .i64 args, .bool word] (fun r => r = .bool (Dy C f g args word)) := by
 refine APure.of_body (n := 38) Am Try.func85 rfl rfl ?_;refine HV ?_;refine ax 5 (F9 2 0) ?_;refine wk 7 ?_;refine A7 13 (fun hb1 => ?_) fun hb1 => ?_
 .
  refine wk 5 ?_;refine A7 18 (fun hb2 => ?_) fun hb2 => ?_
  .
   have hg0 : 0 <= g := by have h := hb1; simp at h; omega
   have hg1 : g < f := by have h := hb2; simp at h; omega
   obtain ⟨fn, hfn⟩ := h0 hg0 hg1
   refine wk 3 ?_;refine aq 22 (Ae Am rfl rfl rfl rfl rfl rfl hg0 (Ds hfn) rfl) ?_;refine wk 3 ?_;refine aq 26 (Oq Am false rfl rfl rfl rfl rfl) ?_;refine wk 2 ?_;refine A7 28 (fun hb3 => ?_) fun hb3 => ?_
   .
    refine wk 3 ?_;refine aq 32 (Ae Am rfl rfl rfl rfl rfl rfl hg0 (Ds hfn) rfl) ?_;refine wk 7 ?_;exact V8
   refine wk 11 ?_;exact V8
  refine wk 21 ?_;exact V8
 refine wk 26 ?_;exact V8
theorem Jz (C : Core) (f : Int) (h0 : 0 <= C.words) (h1 : C.words <= 1000000) (hfs : ∀ g, 0 <= g -> g < f -> ∃ fn, C.funcs[g.toNat]? = some fn) (l : List CE) (level : Int) (hlen : l.length <= maxLen) (hl0 : 0 <= level) (hl2 : level <= 1000) (hrec : level <= 24 -> ∀ x ∈ l, APure Try.prog 86 [.agg C.cells, .int .i64 f, (.lst false (x.kids.map CE.cells)), .int .i64 (level + 1)] (fun r => r = .bool (CE.rightL C f x.kids (level + 1)))) : APure Try.prog 86 [.agg C.cells, .int .i64 f, (.lst false (l.map CE.cells)), .int .i64 level] (fun r => r = .bool (CE.rightL C f l level)) := by
 refine APure.of_body (n := 147) Am Try.func86 rfl rfl ?_;refine HV ?_;refine ax 4 (F9 2 0) ?_;refine wk 8 ?_;refine Bo (γ := Nat) 1 (fun k => ⟨147, (Ad (Ad (Ad (Ad (Ad Bt 1 (.int .i64 f)) 2 (.lst false (l.map CE.cells))) 3 (.int .i64 level)) 4 (.ptr 0 1 0 0)) 9 (.int .i64 (k : Int))), (hput (Bl 1) 0 (.row false 2 [C.cells]))⟩) (fun k => (l.take k).all (fun e => e.right C f level) = true) (fun k => l.length - k) 0 (Sub.mk' BH FV) rfl (fun _ => AQ (fun b hb => Bb hb) rfl) ?_
 intro k hk
 refine wk 8 ?_;refine asp 15 (fun hb1 => ?_) fun hb1 => ?_
 .
  refine act ?_
  have hkl : k < l.length := Bi hb1
  obtain ⟨x, hx⟩ := At hkl
  have hxm := List.mem_of_getElem? hx
  refine wk 7 ?_;refine aq 20 (Ae Am rfl rfl rfl rfl rfl rfl (Int.natCast_nonneg _) (OK hx) rfl) ?_;refine wk 1 ?_;refine ax 10 (KJ Am 1) ?_;refine wk 4 ?_;refine AGo.join (γ := Bool) (fun b => ⟨147, (Ad (Ad (Ad (Ad (Ad (Ad (Ad Bt 1 (.int .i64 f)) 2 (.lst false (l.map CE.cells))) 3 (.int .i64 level)) 4 (.ptr 0 1 0 0)) 9 (.int .i64 (k : Int))) 10 (.ptr 1 1 0 0)) 73 (.bool b)), (hput (hput (Bl 2) 0 (.row false 2 [C.cells])) 1 (.row false 6 [x.row]))⟩) (fun b => b = !(decide (level <= 24) && x.bare)) ?_ ?_
  .
   refine wk 4 ?_;refine A7 24 (fun hb2 => ?_) fun hb2 => ?_
   .
    refine wk 50 ?_;exact FU
   refine wk 4 ?_;refine A7 28 (fun hb3 => ?_) fun hb3 => ?_
   .
    refine wk 6 ?_;refine A7 34 (fun hb4 => ?_) fun hb4 => ?_
    .
     refine wk 40 ?_;exact FU
    refine wk 4 ?_;refine A7 38 (fun hb5 => ?_) fun hb5 => ?_
    .
     refine wk 6 ?_;refine A7 44 (fun hb6 => ?_) fun hb6 => ?_
     .
      refine wk 30 ?_;exact FU
     refine wk 4 ?_;refine A7 48 (fun hb7 => ?_) fun hb7 => ?_
     .
      refine wk 6 ?_;refine A7 54 (fun hb8 => ?_) fun hb8 => ?_
      .
       refine wk 20 ?_;exact FU
      refine wk 4 ?_;refine A7 58 (fun hb9 => ?_) fun hb9 => ?_
      .
       refine wk 5 ?_;refine A7 63 (fun hb10 => ?_) fun hb10 => ?_
       .
        refine wk 5 ?_;refine A7 68 (fun hb11 => ?_) fun hb11 => ?_
        .
         refine wk 6 ?_;exact FU
        refine wk 6 ?_;exact FU
       refine wk 11 ?_;exact FU
      refine wk 16 ?_;exact FU
     refine wk 10 ?_;refine A7 58 (fun hb12 => ?_) fun hb12 => ?_
     .
      refine wk 5 ?_;refine A7 63 (fun hb13 => ?_) fun hb13 => ?_
      .
       refine wk 5 ?_;refine A7 68 (fun hb14 => ?_) fun hb14 => ?_
       .
        refine wk 6 ?_;exact FU
       refine wk 6 ?_;exact FU
      refine wk 11 ?_;exact FU
     refine wk 16 ?_;exact FU
    refine wk 10 ?_;refine A7 48 (fun hb15 => ?_) fun hb15 => ?_
    .
     refine wk 6 ?_;refine A7 54 (fun hb16 => ?_) fun hb16 => ?_
     .
      refine wk 20 ?_;exact FU
     refine wk 4 ?_;refine A7 58 (fun hb17 => ?_) fun hb17 => ?_
     .
      refine wk 5 ?_;refine A7 63 (fun hb18 => ?_) fun hb18 => ?_
      .
       refine wk 5 ?_;refine A7 68 (fun hb19 => ?_) fun hb19 => ?_
       .
        refine wk 6 ?_;exact FU
       refine wk 6 ?_;exact FU
      refine wk 11 ?_;exact FU
     refine wk 16 ?_;exact FU
    refine wk 10 ?_;refine A7 58 (fun hb20 => ?_) fun hb20 => ?_
    .
     refine wk 5 ?_;refine A7 63 (fun hb21 => ?_) fun hb21 => ?_
     .
      refine wk 5 ?_;refine A7 68 (fun hb22 => ?_) fun hb22 => ?_
      .
       refine wk 6 ?_;exact FU
      refine wk 6 ?_;exact FU
     refine wk 11 ?_;exact FU
    refine wk 16 ?_;exact FU
   refine wk 10 ?_;refine A7 38 (fun hb23 => ?_) fun hb23 => ?_
   .
    refine wk 6 ?_;refine A7 44 (fun hb24 => ?_) fun hb24 => ?_
    .
     refine wk 30 ?_;exact FU
    refine wk 4 ?_;refine A7 48 (fun hb25 => ?_) fun hb25 => ?_
    .
     refine wk 6 ?_;refine A7 54 (fun hb26 => ?_) fun hb26 => ?_
     .
      refine wk 20 ?_;exact FU
     refine wk 4 ?_;refine A7 58 (fun hb27 => ?_) fun hb27 => ?_
     .
      refine wk 5 ?_;refine A7 63 (fun hb28 => ?_) fun hb28 => ?_
      .
       refine wk 5 ?_;refine A7 68 (fun hb29 => ?_) fun hb29 => ?_
       .
        refine wk 6 ?_;exact FU
       refine wk 6 ?_;exact FU
      refine wk 11 ?_;exact FU
     refine wk 16 ?_;exact FU
    refine wk 10 ?_;refine A7 58 (fun hb30 => ?_) fun hb30 => ?_
    .
     refine wk 5 ?_;refine A7 63 (fun hb31 => ?_) fun hb31 => ?_
     .
      refine wk 5 ?_;refine A7 68 (fun hb32 => ?_) fun hb32 => ?_
      .
       refine wk 6 ?_;exact FU
      refine wk 6 ?_;exact FU
     refine wk 11 ?_;exact FU
    refine wk 16 ?_;exact FU
   refine wk 10 ?_;refine A7 48 (fun hb33 => ?_) fun hb33 => ?_
   .
    refine wk 6 ?_;refine A7 54 (fun hb34 => ?_) fun hb34 => ?_
    .
     refine wk 20 ?_;exact FU
    refine wk 4 ?_;refine A7 58 (fun hb35 => ?_) fun hb35 => ?_
    .
     refine wk 5 ?_;refine A7 63 (fun hb36 => ?_) fun hb36 => ?_
     .
      refine wk 5 ?_;refine A7 68 (fun hb37 => ?_) fun hb37 => ?_
      .
       refine wk 6 ?_;exact FU
      refine wk 6 ?_;exact FU
     refine wk 11 ?_;exact FU
    refine wk 16 ?_;exact FU
   refine wk 10 ?_;refine A7 58 (fun hb38 => ?_) fun hb38 => ?_
   .
    refine wk 5 ?_;refine A7 63 (fun hb39 => ?_) fun hb39 => ?_
    .
     refine wk 5 ?_;refine A7 68 (fun hb40 => ?_) fun hb40 => ?_
     .
      refine wk 6 ?_;exact FU
     refine wk 6 ?_;exact FU
    refine wk 11 ?_;exact FU
   refine wk 16 ?_;exact FU
  intro b hB
  refine asp 73 (fun hb41 => ?_) fun hb41 => ?_
  .
   refine act ?_
   have hbad : x.right C f level = false := OX hB hb41
   refine wk 4 ?_;refine DO ⟨[_], ⟨rfl, trivial⟩, ?_, rfl⟩
   refine bc ?_
   rw [CE.rightL_all, Dg hx hbad]
  refine BM ?_
  have hby := Tb hB hb41
  refine wk 11 ?_;refine AGo.join (γ := Int) (fun n => ⟨147, (Ad (Ad (Ad (Ad (Ad (Ad (Ad Bt 1 (.int .i64 f)) 2 (.lst false (l.map CE.cells))) 3 (.int .i64 level)) 4 (.ptr 0 1 0 0)) 9 (.int .i64 (k : Int))) 10 (.ptr 1 1 0 0)) 11 (.int .i64 n)), (hput (hput (Bl 2) 0 (.row false 2 [C.cells])) 1 (.row false 6 [x.row]))⟩) (fun n => n = x.cnt /\ x.most C f = true) ?_ ?_
  .
   refine wk 7 ?_;refine asp 76 (fun hb42 => ?_) fun hb42 => ?_
   .
    refine wk 4 ?_;exact MW
   refine wk 5 ?_;refine asp 76 (fun hb43 => ?_) fun hb43 => ?_
   .
    refine wk 2 ?_;exact MW
   refine wk 6 ?_;refine asp 79 (fun hb44 => ?_) fun hb44 => ?_
   .
    refine wk 6 ?_;refine ax 84 (CT Try.func62 (Ej C _ _ h0 h1)) ?_;refine wk 2 ?_;refine asp 85 (fun hb45 => ?_) fun hb45 => ?_
    .
     refine wk 5 ?_;exact NJ
    refine wk 2 ?_;exact MW
   refine wk 6 ?_;refine asp 86 (fun hb46 => ?_) fun hb46 => ?_
   .
    refine wk 11 ?_;refine A7 91 (fun hb47 => ?_) fun hb47 => ?_
    .
     refine wk 19 ?_;exact NJ
    refine wk 5 ?_;refine A7 96 (fun hb48 => ?_) fun hb48 => ?_
    .
     refine wk 14 ?_;exact NJ
    refine wk 5 ?_;refine ax 102 (CT Try.func62 (Ej C _ _ h0 h1)) ?_;refine wk 3 ?_;refine asp 104 (fun hb49 => ?_) fun hb49 => ?_
    .
     refine wk 5 ?_;exact NJ
    refine wk 2 ?_;exact MW
   refine wk 6 ?_;refine asp 105 (fun hb50 => ?_) fun hb50 => ?_
   .
    refine wk 15 ?_;refine ax 115 (CT Try.func85 (JT C f _ _ _ (hfs _))) ?_;refine wk 2 ?_;refine asp 116 (fun hb51 => ?_) fun hb51 => ?_
    .
     refine wk 5 ?_;exact NJ
    refine wk 2 ?_;exact MW
   refine wk 6 ?_;refine asp 117 (fun hb52 => ?_) fun hb52 => ?_
   .
    refine wk 11 ?_;refine A7 122 (fun hb53 => ?_) fun hb53 => ?_
    .
     refine wk 10 ?_;exact NJ
    refine wk 5 ?_;refine asp 126 (fun hb54 => ?_) fun hb54 => ?_
    .
     refine wk 5 ?_;exact NJ
    refine wk 2 ?_;exact MW
   refine wk 6 ?_;refine asp 127 (fun hb55 => ?_) fun hb55 => ?_
   .
    refine wk 4 ?_;exact MW
   refine wk 7 ?_;refine asp 129 (fun hb56 => ?_) fun hb56 => ?_
   .
    refine wk 6 ?_;exact MW
   refine wk 5 ?_;refine asp 129 (fun hb57 => ?_) fun hb57 => ?_
   .
    refine wk 4 ?_;exact MW
   refine wk 5 ?_;exact NJ
  intro n hN
  refine wk 8 ?_;refine A7 137 (fun hb58 => ?_) fun hb58 => ?_
  .
   refine wk 15 ?_;exact Zh
  refine wk 5 ?_;refine aq 143 (AI (r := .int .i64 (level + 1)) rfl rfl rfl Dz) ?_;refine ax 144 (CT Try.func86 (hrec hby.1 x hxm)) ?_;refine wk 3 ?_;refine asp 146 (fun hb59 => ?_) fun hb59 => ?_
  .
   refine wk 5 ?_;exact Zh
  refine BM ?_
  have hyes : x.right C f level = true := by obtain ⟨hN1, hN2⟩ := hN; subst hN1; refine Qz hby hN2 ?_ ?_ <;> simp_all
  exact Zz
 refine BM ?_
 have hge := Bj hb1
 refine wk 5 ?_;refine DO ⟨[_], ⟨rfl, trivial⟩, ?_, rfl⟩
 refine bc ?_
 rw [CE.rightL_all, all_end hk hge]
theorem Mg (C : Core) (f : Int) (h0 : 0 <= C.words) (h1 : C.words <= 1000000) (hfs : ∀ g, 0 <= g -> g < f -> ∃ fn, C.funcs[g.toNat]? = some fn) : ∀ (n : Nat) (l : List CE) (level : Int), 25 - level < n -> (∀ e ∈ l, e.Ok) -> l.length * 64 <= reachBytes -> 0 <= level -> level <= 1000 -> APure Try.prog 86 [.agg C.cells, .int .i64 f, (.lst false (l.map CE.cells)), .int .i64 level] (fun r => r = .bool (CE.rightL C f l level))
  | 0, l, level, hn, hk, hl, h2, h3 => Jz C f h0 h1 hfs l level (Mv hl) h2 h3 fun h => absurd h (by omega)
  | n + 1, l, level, hn, hk, hl, h2, h3 => Jz C f h0 h1 hfs l level (Mv hl) h2 h3 fun h x hx => Mg C f h0 h1 hfs n x.kids (level + 1) (by omega) (hk x hx).kidsOk.1 (hk x hx).kidsOk.2 (by omega) (by omega)
theorem Jy (C : Core) (f : Int) (h0 : 0 <= C.words) (h1 : C.words <= 1000000) (hfs : ∀ g, 0 <= g -> g < f -> ∃ fn, C.funcs[g.toNat]? = some fn) (hf0 : 0 <= f) (gf : CFn) (hgf : C.funcs[f.toNat]? = some gf) (l : List CS) (level : Int) (hkk : ∀ e ∈ l, e.Ok) (hlen : l.length <= maxLen) (hl0 : 0 <= level) (hl2 : level <= 900) (hrec : level <= 24 -> ∀ x ∈ l, APure Try.prog 63 [.agg C.cells, .int .i64 f, (.lst false (x.thn.map CS.cells)), .int .i64 (level + 1)] (fun r => r = .bool (CS.rightL C f gf.word x.thn (level + 1))) /\ APure Try.prog 63 [.agg C.cells, .int .i64 f, (.lst false (x.els.map CS.cells)), .int .i64 (level + 1)] (fun r => r = .bool (CS.rightL C f gf.word x.els (level + 1)))) : APure Try.prog 63 [.agg C.cells, .int .i64 f, (.lst false (l.map CS.cells)), .int .i64 level] (fun r => r = .bool (CS.rightL C f gf.word l level)) := by
 refine APure.of_body (n := 175) Am Try.func63 rfl rfl ?_;refine HV ?_;refine ax 4 (F9 2 0) ?_;refine wk 8 ?_;refine Bo (γ := Nat) 1 (fun k => ⟨175, (Ad (Ad (Ad (Ad (Ad Bt 1 (.int .i64 f)) 2 (.lst false (l.map CS.cells))) 3 (.int .i64 level)) 4 (.ptr 0 1 0 0)) 9 (.int .i64 (k : Int))), (hput (Bl 1) 0 (.row false 2 [C.cells]))⟩) (fun k => (l.take k).all (fun e => e.right C f gf.word level) = true) (fun k => l.length - k) 0 (Sub.mk' BH FV) rfl (fun _ => AQ (fun b hb => Bb hb) rfl) ?_
 intro k hk
 refine wk 8 ?_;refine asp 15 (fun hb1 => ?_) fun hb1 => ?_
 .
  refine act ?_
  have hkl : k < l.length := Bi hb1
  obtain ⟨x, hx⟩ := At hkl
  have hxm := List.mem_of_getElem? hx
  have hxk := hkk x hxm
  refine wk 7 ?_;refine aq 20 (Ae Am rfl rfl rfl rfl rfl rfl (Int.natCast_nonneg _) (LV hx) rfl) ?_;refine wk 1 ?_;refine ax 10 (KJ Am 1) ?_;refine wk 4 ?_;refine AGo.join (γ := Bool) (fun b => ⟨175, (Ad (Ad (Ad (Ad (Ad (Ad (Ad Bt 1 (.int .i64 f)) 2 (.lst false (l.map CS.cells))) 3 (.int .i64 level)) 4 (.ptr 0 1 0 0)) 9 (.int .i64 (k : Int))) 10 (.ptr 1 1 0 0)) 80 (.bool b)), (hput (hput (Bl 2) 0 (.row false 2 [C.cells])) 1 (.row false 6 [x.row]))⟩) (fun b => b = !(decide (level <= 24) && x.bare)) ?_ ?_
  .
   refine wk 4 ?_;refine A7 24 (fun hb2 => ?_) fun hb2 => ?_
   .
    refine wk 57 ?_;exact DN
   refine wk 4 ?_;refine A7 28 (fun hb3 => ?_) fun hb3 => ?_
   .
    refine wk 6 ?_;refine A7 34 (fun hb4 => ?_) fun hb4 => ?_
    .
     refine wk 47 ?_;exact DN
    refine wk 4 ?_;refine A7 38 (fun hb5 => ?_) fun hb5 => ?_
    .
     refine wk 5 ?_;refine A7 43 (fun hb6 => ?_) fun hb6 => ?_
     .
      refine wk 5 ?_;refine A7 48 (fun hb7 => ?_) fun hb7 => ?_
      .
       refine wk 6 ?_;refine A7 54 (fun hb8 => ?_) fun hb8 => ?_
       .
        refine wk 27 ?_;exact DN
       refine wk 4 ?_;refine A7 58 (fun hb9 => ?_) fun hb9 => ?_
       .
        refine wk 7 ?_;refine A7 65 (fun hb10 => ?_) fun hb10 => ?_
        .
         refine wk 16 ?_;exact DN
        refine wk 4 ?_;refine A7 69 (fun hb11 => ?_) fun hb11 => ?_
        .
         refine wk 5 ?_;refine A7 74 (fun hb12 => ?_) fun hb12 => ?_
         .
          refine wk 7 ?_;exact DN
         refine wk 7 ?_;exact DN
        refine wk 12 ?_;exact DN
       refine wk 11 ?_;refine A7 69 (fun hb13 => ?_) fun hb13 => ?_
       .
        refine wk 5 ?_;refine A7 74 (fun hb14 => ?_) fun hb14 => ?_
        .
         refine wk 7 ?_;exact DN
        refine wk 7 ?_;exact DN
       refine wk 12 ?_;exact DN
      refine wk 10 ?_;refine A7 58 (fun hb15 => ?_) fun hb15 => ?_
      .
       refine wk 7 ?_;refine A7 65 (fun hb16 => ?_) fun hb16 => ?_
       .
        refine wk 16 ?_;exact DN
       refine wk 4 ?_;refine A7 69 (fun hb17 => ?_) fun hb17 => ?_
       .
        refine wk 5 ?_;refine A7 74 (fun hb18 => ?_) fun hb18 => ?_
        .
         refine wk 7 ?_;exact DN
        refine wk 7 ?_;exact DN
       refine wk 12 ?_;exact DN
      refine wk 11 ?_;refine A7 69 (fun hb19 => ?_) fun hb19 => ?_
      .
       refine wk 5 ?_;refine A7 74 (fun hb20 => ?_) fun hb20 => ?_
       .
        refine wk 7 ?_;exact DN
       refine wk 7 ?_;exact DN
      refine wk 12 ?_;exact DN
     refine wk 15 ?_;refine A7 58 (fun hb21 => ?_) fun hb21 => ?_
     .
      refine wk 7 ?_;refine A7 65 (fun hb22 => ?_) fun hb22 => ?_
      .
       refine wk 16 ?_;exact DN
      refine wk 4 ?_;refine A7 69 (fun hb23 => ?_) fun hb23 => ?_
      .
       refine wk 5 ?_;refine A7 74 (fun hb24 => ?_) fun hb24 => ?_
       .
        refine wk 7 ?_;exact DN
       refine wk 7 ?_;exact DN
      refine wk 12 ?_;exact DN
     refine wk 11 ?_;refine A7 69 (fun hb25 => ?_) fun hb25 => ?_
     .
      refine wk 5 ?_;refine A7 74 (fun hb26 => ?_) fun hb26 => ?_
      .
       refine wk 7 ?_;exact DN
      refine wk 7 ?_;exact DN
     refine wk 12 ?_;exact DN
    refine wk 20 ?_;refine A7 58 (fun hb27 => ?_) fun hb27 => ?_
    .
     refine wk 7 ?_;refine A7 65 (fun hb28 => ?_) fun hb28 => ?_
     .
      refine wk 16 ?_;exact DN
     refine wk 4 ?_;refine A7 69 (fun hb29 => ?_) fun hb29 => ?_
     .
      refine wk 5 ?_;refine A7 74 (fun hb30 => ?_) fun hb30 => ?_
      .
       refine wk 7 ?_;exact DN
      refine wk 7 ?_;exact DN
     refine wk 12 ?_;exact DN
    refine wk 11 ?_;refine A7 69 (fun hb31 => ?_) fun hb31 => ?_
    .
     refine wk 5 ?_;refine A7 74 (fun hb32 => ?_) fun hb32 => ?_
     .
      refine wk 7 ?_;exact DN
     refine wk 7 ?_;exact DN
    refine wk 12 ?_;exact DN
   refine wk 10 ?_;refine A7 38 (fun hb33 => ?_) fun hb33 => ?_
   .
    refine wk 5 ?_;refine A7 43 (fun hb34 => ?_) fun hb34 => ?_
    .
     refine wk 5 ?_;refine A7 48 (fun hb35 => ?_) fun hb35 => ?_
     .
      refine wk 6 ?_;refine A7 54 (fun hb36 => ?_) fun hb36 => ?_
      .
       refine wk 27 ?_;exact DN
      refine wk 4 ?_;refine A7 58 (fun hb37 => ?_) fun hb37 => ?_
      .
       refine wk 7 ?_;refine A7 65 (fun hb38 => ?_) fun hb38 => ?_
       .
        refine wk 16 ?_;exact DN
       refine wk 4 ?_;refine A7 69 (fun hb39 => ?_) fun hb39 => ?_
       .
        refine wk 5 ?_;refine A7 74 (fun hb40 => ?_) fun hb40 => ?_
        .
         refine wk 7 ?_;exact DN
        refine wk 7 ?_;exact DN
       refine wk 12 ?_;exact DN
      refine wk 11 ?_;refine A7 69 (fun hb41 => ?_) fun hb41 => ?_
      .
       refine wk 5 ?_;refine A7 74 (fun hb42 => ?_) fun hb42 => ?_
       .
        refine wk 7 ?_;exact DN
       refine wk 7 ?_;exact DN
      refine wk 12 ?_;exact DN
     refine wk 10 ?_;refine A7 58 (fun hb43 => ?_) fun hb43 => ?_
     .
      refine wk 7 ?_;refine A7 65 (fun hb44 => ?_) fun hb44 => ?_
      .
       refine wk 16 ?_;exact DN
      refine wk 4 ?_;refine A7 69 (fun hb45 => ?_) fun hb45 => ?_
      .
       refine wk 5 ?_;refine A7 74 (fun hb46 => ?_) fun hb46 => ?_
       .
        refine wk 7 ?_;exact DN
       refine wk 7 ?_;exact DN
      refine wk 12 ?_;exact DN
     refine wk 11 ?_;refine A7 69 (fun hb47 => ?_) fun hb47 => ?_
     .
      refine wk 5 ?_;refine A7 74 (fun hb48 => ?_) fun hb48 => ?_
      .
       refine wk 7 ?_;exact DN
      refine wk 7 ?_;exact DN
     refine wk 12 ?_;exact DN
    refine wk 15 ?_;refine A7 58 (fun hb49 => ?_) fun hb49 => ?_
    .
     refine wk 7 ?_;refine A7 65 (fun hb50 => ?_) fun hb50 => ?_
     .
      refine wk 16 ?_;exact DN
     refine wk 4 ?_;refine A7 69 (fun hb51 => ?_) fun hb51 => ?_
     .
      refine wk 5 ?_;refine A7 74 (fun hb52 => ?_) fun hb52 => ?_
      .
       refine wk 7 ?_;exact DN
      refine wk 7 ?_;exact DN
     refine wk 12 ?_;exact DN
    refine wk 11 ?_;refine A7 69 (fun hb53 => ?_) fun hb53 => ?_
    .
     refine wk 5 ?_;refine A7 74 (fun hb54 => ?_) fun hb54 => ?_
     .
      refine wk 7 ?_;exact DN
     refine wk 7 ?_;exact DN
    refine wk 12 ?_;exact DN
   refine wk 20 ?_;refine A7 58 (fun hb55 => ?_) fun hb55 => ?_
   .
    refine wk 7 ?_;refine A7 65 (fun hb56 => ?_) fun hb56 => ?_
    .
     refine wk 16 ?_;exact DN
    refine wk 4 ?_;refine A7 69 (fun hb57 => ?_) fun hb57 => ?_
    .
     refine wk 5 ?_;refine A7 74 (fun hb58 => ?_) fun hb58 => ?_
     .
      refine wk 7 ?_;exact DN
     refine wk 7 ?_;exact DN
    refine wk 12 ?_;exact DN
   refine wk 11 ?_;refine A7 69 (fun hb59 => ?_) fun hb59 => ?_
   .
    refine wk 5 ?_;refine A7 74 (fun hb60 => ?_) fun hb60 => ?_
    .
     refine wk 7 ?_;exact DN
    refine wk 7 ?_;exact DN
   refine wk 12 ?_;exact DN
  intro b hB
  refine asp 80 (fun hb61 => ?_) fun hb61 => ?_
  .
   refine act ?_
   have hbad : x.right C f gf.word level = false := NZ hB hb61
   refine wk 4 ?_;refine DO ⟨[_], ⟨rfl, trivial⟩, ?_, rfl⟩
   refine bc ?_
   rw [CS.rightL_all, Dg hx hbad]
  refine BM ?_
  have hby := Sj hB hb61
  refine wk 11 ?_;refine AGo.join (γ := Int) (fun n => ⟨175, (Ad (Ad (Ad (Ad (Ad (Ad (Ad Bt 1 (.int .i64 f)) 2 (.lst false (l.map CS.cells))) 3 (.int .i64 level)) 4 (.ptr 0 1 0 0)) 9 (.int .i64 (k : Int))) 10 (.ptr 1 1 0 0)) 11 (.int .i64 n)), (hput (hput (Bl 2) 0 (.row false 2 [C.cells])) 1 (.row false 6 [x.row]))⟩) (fun n => n = x.cnt gf.word /\ x.most C f = true) ?_ ?_
  .
   refine wk 6 ?_;refine asp 83 (fun hb62 => ?_) fun hb62 => ?_
   .
    refine wk 6 ?_;refine ax 88 (CT Try.func62 (Ej C _ _ h0 h1)) ?_;refine wk 2 ?_;refine asp 89 (fun hb63 => ?_) fun hb63 => ?_
    .
     refine wk 5 ?_;exact R4
    refine wk 2 ?_;exact V7
   refine wk 6 ?_;refine asp 90 (fun hb64 => ?_) fun hb64 => ?_
   .
    refine wk 11 ?_;refine A7 95 (fun hb65 => ?_) fun hb65 => ?_
    .
     refine wk 19 ?_;exact R4
    refine wk 5 ?_;refine A7 100 (fun hb66 => ?_) fun hb66 => ?_
    .
     refine wk 14 ?_;exact R4
    refine wk 5 ?_;refine ax 106 (CT Try.func62 (Ej C _ _ h0 h1)) ?_;refine wk 3 ?_;refine asp 108 (fun hb67 => ?_) fun hb67 => ?_
    .
     refine wk 5 ?_;exact R4
    refine wk 2 ?_;exact V7
   refine wk 7 ?_;refine asp 109 (fun hb68 => ?_) fun hb68 => ?_
   .
    refine wk 4 ?_;exact V7
   refine wk 6 ?_;refine asp 109 (fun hb69 => ?_) fun hb69 => ?_
   .
    refine wk 4 ?_;exact V7
   refine wk 5 ?_;refine asp 109 (fun hb70 => ?_) fun hb70 => ?_
   .
    refine wk 2 ?_;exact V7
   refine wk 6 ?_;refine asp 113 (fun hb71 => ?_) fun hb71 => ?_
   .
    refine wk 15 ?_;refine ax 123 (CT Try.func85 (JT C f _ _ _ (hfs _))) ?_;refine wk 2 ?_;refine asp 124 (fun hb72 => ?_) fun hb72 => ?_
    .
     refine wk 5 ?_;exact R4
    refine wk 2 ?_;exact V7
   refine wk 6 ?_;refine asp 125 (fun hb73 => ?_) fun hb73 => ?_
   .
    refine wk 8 ?_;refine A7 131 (fun hb74 => ?_) fun hb74 => ?_
    .
     refine wk 13 ?_;exact V7
    refine wk 3 ?_;refine aq 135 (Ae Am rfl rfl rfl rfl rfl rfl hf0 (Ds hgf) rfl) ?_;refine wk 5 ?_;refine asp 139 (fun hb75 => ?_) fun hb75 => ?_
    .
     refine wk 4 ?_;exact V7
    refine wk 2 ?_;exact V7
   refine wk 5 ?_;exact R4
  intro n hN
  refine asq ?_;refine AGo.join (γ := Bool) (fun c => ⟨175, (Ad (Ad (Ad (Ad (Ad (Ad (Ad Bt 1 (.int .i64 f)) 2 (.lst false (l.map CS.cells))) 3 (.int .i64 level)) 4 (.ptr 0 1 0 0)) 9 (.int .i64 (k : Int))) 10 (.ptr 1 1 0 0)) 174 (.bool c)), (hput (hput (Bl 2) 0 (.row false 2 [C.cells])) 1 (.row false 6 [x.row]))⟩) (fun c => (c = true -> x.right C f gf.word level = false) /\ (c = false -> x.right C f gf.word level = true)) ?_ ?_
  .
   refine wk 7 ?_;refine A7 145 (fun hb76 => ?_) fun hb76 => ?_
   .
    refine wk 30 ?_;exact Wh
   refine wk 5 ?_;refine aq 151 (AI (r := .int .i64 (level + 1)) rfl rfl rfl Dz) ?_;refine ax 152 (CT Try.func86 (Mg C f h0 h1 hfs 1000 x.es (level + 1) (by omega) hxk.esOk.1 hxk.esOk.2 (by omega) (by omega))) ?_;refine wk 3 ?_;refine A7 155 (fun hb77 => ?_) fun hb77 => ?_
   .
    refine wk 20 ?_;exact Wh
   refine wk 5 ?_;refine aq 161 (AI (r := .int .i64 (level + 1)) rfl rfl rfl Dz) ?_;refine ax 162 (CT Try.func63 ((hrec hby.1 x hxm).1)) ?_;refine wk 3 ?_;refine A7 165 (fun hb78 => ?_) fun hb78 => ?_
   .
    refine wk 10 ?_;exact Wh
   refine wk 5 ?_;refine aq 171 (AI (r := .int .i64 (level + 1)) rfl rfl rfl Dz) ?_;refine ax 172 (CT Try.func63 ((hrec hby.1 x hxm).2)) ?_;refine wk 3 ?_;exact Wh
  intro c hC
  refine asp 174 (fun hb79 => ?_) fun hb79 => ?_
  .
   refine act ?_
   have hno := hC.1 hb79
   refine wk 4 ?_;refine DO ⟨[_], ⟨rfl, trivial⟩, ?_, rfl⟩
   refine bc ?_
   rw [CS.rightL_all, Dg hx hno]
  refine BM ?_
  have hyes := hC.2 hb79
  exact Zz
 refine BM ?_
 have hge := Bj hb1
 refine wk 5 ?_;refine DO ⟨[_], ⟨rfl, trivial⟩, ?_, rfl⟩
 refine bc ?_
 rw [CS.rightL_all, all_end hk hge]
theorem I2 (C : Core) (f : Int) (h0 : 0 <= C.words) (h1 : C.words <= 1000000) (hfs : ∀ g, 0 <= g -> g < f -> ∃ fn, C.funcs[g.toNat]? = some fn) (hf0 : 0 <= f) (gf : CFn) (hgf : C.funcs[f.toNat]? = some gf) : ∀ (n : Nat) (l : List CS) (level : Int), 25 - level < n -> (∀ e ∈ l, e.Ok) -> l.length * 96 <= reachBytes -> 0 <= level -> level <= 900 -> APure Try.prog 63 [.agg C.cells, .int .i64 f, (.lst false (l.map CS.cells)), .int .i64 level] (fun r => r = .bool (CS.rightL C f gf.word l level))
  | 0, l, level, hn, hk, hl, h2, h3 => Jy C f h0 h1 hfs hf0 gf hgf l level hk (Is hl) h2 h3 fun h => absurd h (by omega)
  | n + 1, l, level, hn, hk, hl, h2, h3 => Jy C f h0 h1 hfs hf0 gf hgf l level hk (Is hl) h2 h3 fun h x hx => ⟨I2 C f h0 h1 hfs hf0 gf hgf n x.thn (level + 1) (by omega) (hk x hx).thnOk.1 (hk x hx).thnOk.2 (by omega) (by omega), I2 C f h0 h1 hfs hf0 gf hgf n x.els (level + 1) (by omega) (hk x hx).elsOk.1 (hk x hx).elsOk.2 (by omega) (by omega)⟩
theorem K3 (l : List CE) (left deep : Int) (hl : -1 <= left) (hl2 : left <= 1000000) (hd : -1 <= deep) (hd2 : deep <= 1000) (hlen : l.length <= maxLen) (hrec : 0 <= deep -> ∀ x ∈ l, ∀ a : Int, -1 <= a -> a <= 1000000 -> APure Try.prog 84 [(.lst false (x.kids.map CE.cells)), .int .i64 a, .int .i64 (deep - 1)] (fun r => r = .int .i64 (DQ x.kids a (deep - 1)))) : APure Try.prog 84 [(.lst false (l.map CE.cells)), .int .i64 left, .int .i64 deep] (fun r => r = .int .i64 (DQ l left deep)) := by
 refine APure.of_body (n := 31) Am Try.func84 rfl rfl ?_;refine wk 10 ?_;refine asp 9 (fun hb1 => ?_) fun hb1 => ?_
 .
  refine wk 5 ?_;refine DO ⟨[_], ⟨rfl, trivial⟩, ?_, rfl⟩
  rw [SR hb1]; rfl
 refine wk 8 ?_;refine Bo (γ := Nat × Int) 0 (fun q => ⟨31, (Ad (Ad (Ad (Ad Bt 0 (.lst false (l.map CE.cells))) 1 (.int .i64 q.2)) 2 (.int .i64 deep)) 7 (.int .i64 (q.1 : Int))), (Bl 0)⟩) (fun q => CE.leftL (l.drop q.1) q.2 deep = DQ l left deep /\ -1 <= q.2 /\ q.2 <= left) (fun q => l.length - q.1) (0, left) (Sub.mk' BH FV) ⟨(SQ hb1).symm, hl, Int.le_refl _⟩ (fun _ => fun b hb => Bb hb) ?_
 intro q hF
 refine wk 8 ?_;refine A7 14 (fun hb2 => ?_) fun hb2 => ?_
 .
  refine wk 4 ?_;refine asp 17 (fun hb3 => ?_) fun hb3 => ?_
  .
   refine act ?_
   have hql : q.1 < l.length := Bi hb2
   obtain ⟨x, hx⟩ := At hql
   have hq0 : 0 <= q.2 := by simpa using hb3
   have h0 : 0 <= deep := by simpa using hb1
   refine wk 6 ?_;refine aq 22 (Ae Am rfl rfl rfl rfl rfl rfl (Int.natCast_nonneg _) (OK hx) rfl) ?_;refine wk 3 ?_;refine aq 26 (AI (r := .int .i64 (q.2 - 1)) rfl rfl rfl Dz) ?_;refine wk 1 ?_;refine aq 28 (AI (r := .int .i64 (deep - 1)) rfl rfl rfl Dz) ?_;refine ax 29 (CT Try.func84 (hrec h0 x (List.mem_of_getElem? hx) (q.2 - 1) (by omega) (by omega))) ?_;refine wk 4 ?_;refine aq 19 (Cc rfl rfl hql hlen) ?_;refine wk 2 ?_;exact ⟨(q.1 + 1, DQ x.kids (q.2 - 1) (deep - 1)), Drop.mk' JY Hn, ⟨(U0 hx hq0).symm.trans hF.1, (Jd x.kids (by omega)).1, by have := (Jd x.kids (deep := deep - 1) (show -1 <= q.2 - 1 by omega)).2; show DQ x.kids (q.2 - 1) (deep - 1) <= left; omega⟩, (by show l.length - (q.1 + 1) < l.length - q.1; omega)⟩
  refine wk 7 ?_;exact Ze
 refine wk 11 ?_;exact Ze
theorem OH : ∀ (n : Nat) (l : List CE) (left deep : Int), deep < n -> (∀ e ∈ l, e.Ok) -> l.length * 64 <= reachBytes -> -1 <= left -> left <= 1000000 -> -1 <= deep -> deep <= 1000 -> APure Try.prog 84 [(.lst false (l.map CE.cells)), .int .i64 left, .int .i64 deep] (fun r => r = .int .i64 (DQ l left deep))
  | 0, l, left, deep, hn, hk, hl, h1, h2, h3, h4 => K3 l left deep h1 h2 h3 h4 (Mv hl) fun h0 => absurd h0 (by omega)
  | n + 1, l, left, deep, hn, hk, hl, h1, h2, h3, h4 => K3 l left deep h1 h2 h3 h4 (Mv hl) fun h0 x hx a ha ha2 => OH n x.kids a (deep - 1) (by omega) (hk x hx).kidsOk.1 (hk x hx).kidsOk.2 ha ha2 (by omega) (by omega)
theorem K1 (l : List CS) (left deep : Int) (hl : -1 <= left) (hl2 : left <= 1000000) (hd : -1 <= deep) (hd2 : deep <= 1000) (hk : ∀ e ∈ l, e.Ok) (hlen : l.length <= maxLen) (hrec : 0 <= deep -> ∀ x ∈ l, ∀ a : Int, -1 <= a -> a <= 1000000 -> APure Try.prog 61 [(.lst false (x.thn.map CS.cells)), .int .i64 a, .int .i64 (deep - 1)] (fun r => r = .int .i64 (Ct x.thn a (deep - 1))) /\ APure Try.prog 61 [(.lst false (x.els.map CS.cells)), .int .i64 a, .int .i64 (deep - 1)] (fun r => r = .int .i64 (Ct x.els a (deep - 1)))) : APure Try.prog 61 [(.lst false (l.map CS.cells)), .int .i64 left, .int .i64 deep] (fun r => r = .int .i64 (Ct l left deep)) := by
 refine APure.of_body (n := 49) Am Try.func61 rfl rfl ?_;refine wk 10 ?_;refine asp 9 (fun hb1 => ?_) fun hb1 => ?_
 .
  refine wk 5 ?_;refine DO ⟨[_], ⟨rfl, trivial⟩, ?_, rfl⟩
  rw [SM hb1]; rfl
 refine wk 8 ?_;refine Bo (γ := Nat × Int) 0 (fun q => ⟨49, (Ad (Ad (Ad (Ad Bt 0 (.lst false (l.map CS.cells))) 1 (.int .i64 q.2)) 2 (.int .i64 deep)) 7 (.int .i64 (q.1 : Int))), (Bl 0)⟩) (fun q => CS.leftL (l.drop q.1) q.2 deep = Ct l left deep /\ -1 <= q.2 /\ q.2 <= left) (fun q => l.length - q.1) (0, left) (Sub.mk' BH FV) ⟨(SL hb1).symm, hl, Int.le_refl _⟩ (fun _ => fun b hb => Bb hb) ?_
 intro q hF
 refine wk 8 ?_;refine A7 14 (fun hb2 => ?_) fun hb2 => ?_
 .
  refine wk 4 ?_;refine asp 17 (fun hb3 => ?_) fun hb3 => ?_
  .
   refine act ?_
   have hql : q.1 < l.length := Bi hb2
   obtain ⟨x, hx⟩ := At hql
   have hxm := List.mem_of_getElem? hx
   have hxk := hk x hxm
   have hq0 : 0 <= q.2 := by simpa using hb3
   have h0 : 0 <= deep := by simpa using hb1
   have hi1 := Jd x.es (deep := deep - 1) (show -1 <= q.2 - 1 by omega)
   have hi2 := G9 x.thn (deep := deep - 1) hi1.1
   have hi3 := G9 x.els (deep := deep - 1) hi2.1
   refine wk 7 ?_;refine aq 22 (Ae Am rfl rfl rfl rfl rfl rfl (Int.natCast_nonneg _) (LV hx) rfl) ?_;refine wk 3 ?_;refine aq 26 (AI (r := .int .i64 (q.2 - 1)) rfl rfl rfl Dz) ?_;refine wk 1 ?_;refine aq 28 (AI (r := .int .i64 (deep - 1)) rfl rfl rfl Dz) ?_;refine ax 29 (CT Try.func84 (OH (deep.toNat + 1) x.es (q.2 - 1) (deep - 1) (by omega) hxk.esOk.1 hxk.esOk.2 (by omega) (by omega) (by omega) (by omega))) ?_;refine wk 6 ?_;refine aq 32 (Ae Am rfl rfl rfl rfl rfl rfl (Int.natCast_nonneg _) (LV hx) rfl) ?_;refine wk 4 ?_;refine aq 37 (AI (r := .int .i64 (deep - 1)) rfl rfl rfl Dz) ?_;refine ax 38 (CT Try.func61 ((hrec h0 x hxm _ hi1.1 (by have := hi1.2; omega)).1)) ?_;refine wk 5 ?_;refine aq 41 (Ae Am rfl rfl rfl rfl rfl rfl (Int.natCast_nonneg _) (LV hx) rfl) ?_;refine wk 4 ?_;refine aq 46 (AI (r := .int .i64 (deep - 1)) rfl rfl rfl Dz) ?_
   refine ax 47 (CT Try.func61 ((hrec h0 x hxm _ hi2.1 (by have := hi1.2; have := hi2.2; omega)).2)) ?_;refine wk 4 ?_;refine aq 19 (Cc rfl rfl hql hlen) ?_;refine wk 2 ?_;exact ⟨(q.1 + 1, Ct x.els (Ct x.thn (DQ x.es (q.2 - 1) (deep - 1)) (deep - 1)) (deep - 1)), Drop.mk' JY Hn, ⟨(SN hx hq0).symm.trans hF.1, hi3.1, by have := hi1.2; have := hi2.2; have := hi3.2; show Ct x.els (Ct x.thn (DQ x.es (q.2 - 1) (deep - 1)) (deep - 1)) (deep - 1) <= left; omega⟩, (by show l.length - (q.1 + 1) < l.length - q.1; omega)⟩
  refine wk 7 ?_;exact Zf
 refine wk 11 ?_;exact Zf
theorem K2 : ∀ (n : Nat) (l : List CS) (left deep : Int), deep < n -> (∀ e ∈ l, e.Ok) -> l.length * 96 <= reachBytes -> -1 <= left -> left <= 1000000 -> -1 <= deep -> deep <= 1000 -> APure Try.prog 61 [(.lst false (l.map CS.cells)), .int .i64 left, .int .i64 deep] (fun r => r = .int .i64 (Ct l left deep))
  | 0, l, left, deep, hn, hk, hl, h1, h2, h3, h4 => K1 l left deep h1 h2 h3 h4 hk (Is hl) fun h0 => absurd h0 (by omega)
  | n + 1, l, left, deep, hn, hk, hl, h1, h2, h3, h4 => K1 l left deep h1 h2 h3 h4 hk (Is hl) fun h0 x hx a ha ha2 => ⟨K2 n x.thn a (deep - 1) (by omega) (hk x hx).thnOk.1 (hk x hx).thnOk.2 ha ha2 (by omega) (by omega), K2 n x.els a (deep - 1) (by omega) (hk x hx).elsOk.1 (hk x hx).elsOk.2 ha ha2 (by omega) (by omega)⟩
theorem Vg (C : Core) (most : Int) (hC : C.Ok) (h1 : -1 <= most) (h2 : most <= 1000000) : APure Try.prog 42 [.agg C.cells, .int .i64 most] (fun r => r = .bool (C.few most)) := by
 refine APure.of_body (n := 29) Am Try.func42 rfl rfl ?_;refine HV ?_;refine ax 2 (F9 2 0) ?_;refine wk 10 ?_;refine asp 10 (fun hb1 => ?_) fun hb1 => ?_
 .
  refine wk 5 ?_;refine DO ⟨[_], ⟨rfl, trivial⟩, ?_, rfl⟩
  refine bc ?_
  have hb : ¬ (C.funcs.length <= 100) := by have h := hb1; simp at h; omega
  unfold Core.few
  rw [decide_eq_false hb]; rfl
 refine wk 13 ?_;refine Bo (γ := Nat) 1 (fun k => ⟨29, (Ad (Ad (Ad Bt 2 (.ptr 0 1 0 0)) 5 (.int .i64 (Fj (C.funcs.take k) most))) 6 (.int .i64 (k : Int))), (hput (Bl 1) 0 (.row false 2 [C.cells]))⟩) (fun k => k <= C.funcs.length) (fun k => C.funcs.length - k) 0 (Sub.mk' BH FV) (Nat.zero_le _) (fun _ => AQ (fun b hb => Bb hb) rfl) ?_
 intro k hk
 refine wk 9 ?_;refine asp 16 (fun hb2 => ?_) fun hb2 => ?_
 .
  refine act ?_
  have hkl : k < C.funcs.length := Bi hb2
  obtain ⟨x, hx⟩ := At hkl
  refine wk 7 ?_;refine aq 22 (Ae Am rfl rfl rfl rfl rfl rfl (Int.natCast_nonneg _) (Cg (by assumption)) rfl) ?_;refine wk 3 ?_;refine ax 26 (CT Try.func61 (K2 41 x.body (Fj (C.funcs.take k) most) 40 (by omega) (hC.funcs x (List.mem_of_getElem? hx)).body (hC.funcs x (List.mem_of_getElem? hx)).len (Ha _ h1).1 (by have := (Ha (C.funcs.take k) h1).2; omega) (by omega) (by omega))) ?_;refine wk 4 ?_;refine aq 18 (Cc rfl rfl hkl (Rx hC.len)) ?_;refine wk 2 ?_;exact ⟨k+1, Drop.mk' (by repeat (first | exact EDrop.new _ _ | refine EDrop.put ?_ (by first | rfl | exact congrArg (fun n => some (AV.int .i64 n)) (Ql hx most).symm) T3)) Hn, hkl, by omega⟩
 refine BM ?_
 have hke : k = C.funcs.length := Nat.le_antisymm hk (Bj hb2)
 refine wk 7 ?_;refine DO ⟨[_], ⟨rfl, trivial⟩, ?_, rfl⟩
 refine bc ?_
 have hb : C.funcs.length <= 100 := by have h := hb1; simp at h; omega
 subst hke
 unfold Core.few
 rw [decide_eq_true hb, List.take_length]; rfl
theorem PX (C : Core) (hC : C.Ok) : APure Try.prog 43 [.agg C.cells] (fun r => r = .bool C.right) := by
 refine APure.of_body (n := 96) Am Try.func43 rfl rfl ?_;refine HV ?_;refine ax 1 (F9 2 0) ?_;refine wk 9 ?_;refine A7 10 (fun hb1 => ?_) fun hb1 => ?_
 .
  refine wk 22 ?_;exact Wb
 refine wk 5 ?_;refine A7 15 (fun hb2 => ?_) fun hb2 => ?_
 .
  refine wk 17 ?_;exact Wb
 refine wk 6 ?_;refine A7 21 (fun hb3 => ?_) fun hb3 => ?_
 .
  refine wk 11 ?_;exact Wb
 refine wk 6 ?_;refine asp 26 (fun hb4 => ?_) fun hb4 => ?_
 .
  refine wk 5 ?_;exact Wb
 refine BM ?_
 have hR : 0 <= C.words /\ C.words <= 1000000 /\ C.words <= 32768 /\ 1 <= C.funcs.length /\ C.funcs.length <= 64 := by simp_all <;> omega
 refine wk 7 ?_;refine Bo (γ := Nat) 1 (fun k => ⟨96, (Ad (Ad Bt 1 (.ptr 0 1 0 0)) 3 (.int .i64 (k : Int))), (hput (Bl 1) 0 (.row false 2 [C.cells]))⟩) (fun k => (C.funcs.take k).all (fun g => g.fits C) = true) (fun k => C.funcs.length - k) 0 (Sub.mk' BH FV) rfl (fun _ => AQ (fun b hb => Bb hb) rfl) ?_
 intro k hk
 refine wk 9 ?_;refine asp 31 (fun hb5 => ?_) fun hb5 => ?_
 .
  refine act ?_
  have hkl : k < C.funcs.length := Bi hb5
  obtain ⟨x, hx⟩ := At hkl
  have hxm := List.mem_of_getElem? hx
  refine wk 8 ?_;refine aq 37 (Yw Am (Cg hx)) ?_;refine wk 1 ?_;refine ax 4 (KJ Am 1) ?_;refine wk 3 ?_;refine AGo.join (γ := Bool) (fun c => ⟨96, (Ad (Ad (Ad (Ad Bt 1 (.ptr 0 1 0 0)) 3 (.int .i64 (k : Int))) 4 (.ptr 1 1 0 0)) 62 (.bool c)), (hput (hput (Bl 2) 0 (.row false 2 [C.cells])) 1 (.row false 5 [x.cells]))⟩) (fun c => c = !(x.fits C)) ?_ ?_
  .
   refine wk 5 ?_;refine A7 42 (fun hb6 => ?_) fun hb6 => ?_
   .
    refine wk 21 ?_;exact Wg
   refine wk 5 ?_;refine A7 47 (fun hb7 => ?_) fun hb7 => ?_
   .
    refine wk 16 ?_;exact Wg
   refine wk 7 ?_;refine A7 54 (fun hb8 => ?_) fun hb8 => ?_
   .
    refine wk 9 ?_;exact Wg
   refine wk 5 ?_;refine ax 60 (CT Try.func62 (Ej C _ _ hR.1 hR.2.1)) ?_;refine wk 3 ?_;exact Wg
  intro c hc
  refine asp 62 (fun hb9 => ?_) fun hb9 => ?_
  .
   refine act ?_
   have hbad : x.fits C = false := by rw [hb9] at hc; simpa using hc.symm
   refine wk 4 ?_;refine DO ⟨[_], ⟨rfl, trivial⟩, ?_, rfl⟩
   refine bc ?_;refine (eq_false_of_ne_true fun h => ?_).symm
   unfold Core.right at h
   simp only [Bool.and_eq_true] at h
   rw [Dg hx hbad] at h
   exact absurd h.2.2.2.2.1 (by decide)
  refine BM ?_
  have hfit : x.fits C = true := by rw [hb9] at hc; simpa using hc.symm
  refine wk 3 ?_;refine aq 33 (Cc rfl rfl hkl (Rx hC.len)) ?_;refine wk 2 ?_;exact ⟨k+1, Drop.mk' JY Hn, FT hx hk hfit, by omega⟩
 refine BM ?_
 have hall1 := all_end hk (Bj hb5)
 refine wk 7 ?_;refine Bo (γ := Nat) 1 (fun k => ⟨96, (Ad (Ad Bt 1 (.ptr 0 1 0 0)) 5 (.int .i64 (k : Int))), (hput (Bl 1) 0 (.row false 2 [C.cells]))⟩) (fun k => (C.funcs.zipIdx.take k).all (fun p => CS.rightL C (p.2 : Int) p.1.word p.1.body 1) = true) (fun k => C.funcs.length - k) 0 (Sub.mk' BH FV) rfl (fun _ => AQ (fun b hb => Bb hb) rfl) ?_
 intro k hk
 refine wk 9 ?_;refine asp 67 (fun hb10 => ?_) fun hb10 => ?_
 .
  refine act ?_
  have hkl : k < C.funcs.length := Bi hb10
  obtain ⟨x, hx⟩ := At hkl
  have hxm := List.mem_of_getElem? hx
  refine wk 10 ?_;refine dq 75 (Yw Am (Cg hx)) ?_;refine wk 2 ?_;refine dx 78 (CT Try.func63 (I2 C (k : Int) hR.1 hR.2.1 (fun g g0 g1 => At (by omega)) (Int.natCast_nonneg _) x (by rw [Int.toNat_natCast]; exact hx) 100 x.body 1 (by omega) (hC.funcs x hxm).body (hC.funcs x hxm).len (by omega) (by omega))) ?_;refine dq 79 (On rfl rfl) ?_;refine wk 1 ?_;refine asp 79 (fun hb11 => ?_) fun hb11 => ?_
  .
   refine act ?_
   have hno : CS.rightL C (k : Int) x.word x.body 1 = false := by have h := hb11; simpa using h
   refine wk 4 ?_;refine DO ⟨[_], ⟨rfl, trivial⟩, ?_, rfl⟩
   refine bc ?_;refine (eq_false_of_ne_true fun h => ?_).symm
   unfold Core.right at h
   simp only [Bool.and_eq_true] at h
   rw [Dg (CF hx) hno] at h
   exact absurd h.2.2.2.2.2.1 (by decide)
  refine BM ?_
  have hone : CS.rightL C (k : Int) x.word x.body 1 = true := by have h := hb11; simpa using h
  refine wk 3 ?_;refine aq 69 (Cc rfl rfl hkl (Rx hC.len)) ?_;refine wk 2 ?_;exact ⟨k+1, Drop.mk' JY Hn, FT (CF hx) hk hone, by omega⟩
 refine BM ?_
 have hall2 := all_end hk (by rw [List.length_zipIdx]; exact Bj hb10)
 obtain ⟨y, hlast⟩ := At (l := C.funcs) (k := C.funcs.length - 1) (by omega)
 refine wk 8 ?_;refine aq 85 (AI (r := .int .i64 ((C.funcs.length : Int) - 1)) rfl rfl rfl Yf) ?_;refine aq 86 (Ae Am rfl rfl rfl rfl rfl rfl (by omega) (Ds (by rw [show ((C.funcs.length : Int) - 1).toNat = C.funcs.length - 1 by omega]; exact hlast)) rfl) ?_
 refine wk 1 ?_;refine ax 6 (KJ Am 1) ?_;refine wk 8 ?_;refine A7 91 (fun hb12 => ?_) fun hb12 => ?_
 .
  exact Zi
 exact Zi
theorem S4 (C : Core) (most : Int) (hC : C.Ok) (h1 : -1 <= most) (h2 : most <= 1000000) : APure Try.prog 27 [.agg C.cells, .int .i64 most] (fun r => r = .bool (C.fair most)) := by
 refine APure.of_body (n := 17) Am Try.func27 rfl rfl ?_;refine HV ?_;refine ax 2 (F9 2 0) ?_;refine wk 6 ?_;refine ax 7 (CT Try.func42 (Vg C most hC h1 h2)) ?_;refine am 8 ?_;refine A7 8 (fun hb1 => ?_) fun hb1 => ?_
 .
  refine wk 5 ?_;refine A7 13 (fun hb2 => ?_) fun hb2 => ?_
  .
   refine wk 1 ?_;refine ax 15 (CT Try.func43 (PX C hC)) ?_;refine wk 3 ?_;exact X8
  refine wk 5 ?_;exact X8
 refine wk 10 ?_;exact X8
theorem VM (a : Nat) (ha : a < 4294967296) : ACall Try.prog 105 [.int .u32 (a : Int)] (hput hNew 0 .free) (fun r h' => r = .ref 0 32 0 32 /\ HSub (hput hNone 0 (.row true 1 (natCells (Du a 32)))) h') := by
 refine ACall.of_body (n := 18) Am Try.func105 rfl rfl ?_;refine wk 10 ?_;refine AGo.ghost (.dry 3 0 1 true rfl rfl rfl (by decide)) ?_;refine wk 4 ?_;refine Ee (γ := Nat) (fun k => ⟨18, (Ad (Ad (Ad Bt 0 (.int .u32 ((a / 2 ^ k : Nat) : Int))) 3 (.ref 0 k 0 k)) 4 (.int .i64 (k : Int))), (hput hNone 0 (.row true 1 (natCells (Du a k))))⟩) (fun k => k <= 32) (fun k => 32 - k) 0 (Sub.mk' (by repeat (first | exact ESub.new _ | refine ESub.put ?_ (by first | rfl | exact congrArg (fun (n : Nat) => some (AV.int .u32 (n : Int))) (by simp)))) FV) (Nat.zero_le _) ?_;exact ZQ
theorem VL (a : Nat) (ha : a < 4294967296) : ACall Try.prog 105 [.int .u32 (a : Int)] (hput hNew 1 .free) (fun r h' => r = .ref 1 32 0 32 /\ HSub (hput hNone 1 (.row true 1 (natCells (Du a 32)))) h') := by
 refine ACall.of_body (n := 18) Am Try.func105 rfl rfl ?_;refine wk 10 ?_;refine AGo.ghost (.dry 3 1 1 true rfl rfl rfl (by decide)) ?_;refine wk 4 ?_;refine Ee (γ := Nat) (fun k => ⟨18, (Ad (Ad (Ad Bt 0 (.int .u32 ((a / 2 ^ k : Nat) : Int))) 3 (.ref 1 k 0 k)) 4 (.int .i64 (k : Int))), (hput hNone 1 (.row true 1 (natCells (Du a k))))⟩) (fun k => k <= 32) (fun k => 32 - k) 0 (Sub.mk' (by repeat (first | exact ESub.new _ | refine ESub.put ?_ (by first | rfl | exact congrArg (fun (n : Nat) => some (AV.int .u32 (n : Int))) (by simp)))) FV) (Nat.zero_le _) ?_;exact ZQ
theorem To (l : List Nat) (hl : l.length = 32) (hb : ∀ b ∈ l, b < 2) : APure Try.prog 106 [.lst false (natCells l)] (fun r => r = .int .u32 (valB l : Int)) := by
 refine APure.of_body (n := 23) Am Try.func106 rfl rfl ?_;refine wk 13 ?_;refine aq 7 (AI (r := .int .i64 (31 : Int)) rfl rfl rfl (by rw [Bm, hl]; rfl)) ?_;refine wk 3 ?_;refine Ee (γ := Nat) (fun k => ⟨23, (Ad (Ad (Ad Bt 0 (.lst false (natCells l))) 3 (.int .u64 ((valB (l.drop k) : Nat) : Int))) 4 (.int .i64 ((k : Int) - 1))), hNone⟩) (fun k => k <= 32) (fun k => k) 32 (Sub.mk' (by repeat (first | exact ESub.new _ | refine ESub.put ?_ (by first | rfl | exact congrArg (fun (n : Nat) => some (AV.int .u64 (n : Int))) (by rw [List.drop_eq_nil_of_le (by omega)]; rfl)))) FV) (Nat.le_refl _) ?_
 intro k hk
 refine wk 6 ?_;refine asp 9 (fun hb1 => ?_) fun hb1 => ?_
 .
  refine act ?_
  obtain ⟨m, rfl⟩ : ∃ m, k = m + 1 := ⟨k - 1, by have h := hb1; simp at h; omega⟩
  obtain ⟨b, hx⟩ := At (l := l) (k := m) (by omega)
  have hb2 := hb b (List.mem_of_getElem? hx)
  have hv := H5 hl hb (m + 1)
  have hv2 := Sc hx
  refine wk 5 ?_;refine aq 13 (AI (r := .int .u64 ((2 * valB (l.drop (m + 1)) : Nat) : Int)) rfl rfl rfl (Ln (a := 2) (b := valB (l.drop (m + 1))) (B9 (by omega)))) ?_;refine wk 2 ?_;refine aq 16 (Ae Am rfl rfl rfl rfl rfl rfl (by omega) (cs := [.int .i64 (b : Int)]) (by rw [show (((m + 1 : Nat) : Int) - 1).toNat = m by omega]; show (natCells l)[m]? = _; rw [natCells, List.getElem?_map, hx]; rfl) rfl) ?_
  refine wk 1 ?_;refine aq 18 (B1 Am rfl rfl rfl rfl rfl (B9 (by omega))) ?_;refine aq 19 (AI (r := .int .u64 ((2 * valB (l.drop (m + 1)) + b : Nat) : Int)) rfl rfl rfl (GR (B9 (by omega)))) ?_;refine wk 4 ?_;refine aq 11 (AI (r := .int .i64 ((m : Int) - 1)) rfl rfl rfl Wj) ?_;refine wk 2 ?_;exact ⟨m, Sub.mk' (by repeat (first | exact ESub.new _ | refine ESub.put ?_ (by first | rfl | exact congrArg (fun (n : Nat) => some (AV.int .u64 (n : Int))) (by omega)))) FV, (by omega), by omega⟩
 refine BM ?_
 obtain rfl : k = 0 := by have h := hb1; simp at h; omega
 refine wk 4 ?_;refine aq 21 (AI (r := .int .u64 ((valB (l.drop 0) % 4294967296 : Nat) : Int)) rfl rfl rfl (E9 (a := valB (l.drop 0)) (b := 4294967296) (by decide))) ?_;refine aq 22 (B1 Am rfl rfl rfl rfl rfl (CP (Nat.mod_lt _ (by decide)))) ?_;refine wk 2 ?_;refine DO ⟨[_], ⟨rfl, trivial⟩, ?_, rfl⟩
 show AV.int .u32 _ = _
 rw [Nat.mod_eq_of_lt (H5 hl hb 0), List.drop_zero]
theorem Xj (op : Int) (a b : Nat) (ha : a < 4294967296) (hb : b < 4294967296) : APure Try.prog 95 [.int .i64 op, .int .u32 (a : Int), .int .u32 (b : Int)] (fun r => r = .int .u32 (valB (DH op a b) : Int)) := by
 refine APure.of_body (n := 50) Am Try.func95 rfl rfl ?_;refine wk 7 ?_;refine ax 12 (Yz (VM a ha) [0] [(0, (.row true 1 (natCells (Du a 32))))] rfl Try.func105 (by kernel_rfl) rfl rfl rfl ⟨⟨_, rfl, rfl⟩, trivial⟩ rfl (AX rfl (Dt _)) ⟨⟨_, rfl, rfl, rfl⟩, trivial⟩ rfl) ?_;refine wk 1 ?_;refine ax 14 (Yz (VL b hb) [1] [(1, (.row true 1 (natCells (Du b 32))))] rfl Try.func105 (by kernel_rfl) rfl rfl rfl ⟨⟨_, rfl, rfl⟩, trivial⟩ rfl (AX rfl (Dt _)) ⟨⟨_, rfl, rfl, rfl⟩, trivial⟩ rfl) ?_;refine wk 9 ?_;refine Ee (γ := Nat) (fun k => ⟨50, (Ad (Ad (Ad (Ad Bt 0 (.int .i64 op)) 7 (.ref 0 32 0 32)) 8 (.ref 1 32 0 32)) 9 (.int .i64 (k : Int))), (hput (hput hNone 0 (.row true 1 (natCells (Ho op a b k)))) 1 (.row true 1 (natCells (Du b 32))))⟩) (fun k => k <= 32) (fun k => 32 - k) 0 (Sub.mk' BH (by repeat (first | exact HSub.refl _ | exact HSub.none _ | exact CX _ | exact CC NN | refine HSub.put ?_ (by first | rfl | exact congrArg (fun l => some (AObj.row true 1 (natCells l))) (SK op a b).symm) | refine CW ?_ NN | refine Di ?_ (by decide)))) (Nat.zero_le _) ?_
 intro k hk
 refine wk 6 ?_;refine asp 16 (fun hb1 => ?_) fun hb1 => ?_
 .
  refine act ?_
  have hkl : k < 32 := by have h := hb1; simp at h; omega
  refine wk 7 ?_;refine dq 21 (Ah Am rfl rfl rfl rfl rfl rfl rfl (by simp [Bm, C3 (Nat.le_of_lt hkl), BS]) rfl (Int.natCast_nonneg _) (by omega)) ?_;refine dq 22 (Ar Am rfl rfl rfl (.ptr _ _ _ _ _ _ _ _ rfl (by simp [Bm, C3 (Nat.le_of_lt hkl)]) (EF (KR hkl))) rfl) ?_;refine wk 2 ?_;refine dq 25 (Ah Am rfl rfl rfl rfl rfl rfl rfl (by simp [Bm, C3 (Nat.le_of_lt hkl), BS]) rfl (Int.natCast_nonneg _) (by omega)) ?_;refine dq 26 (Ar Am rfl rfl rfl (.ptr _ _ _ _ _ _ _ _ rfl (by simp [Bm, BS]) (EF (Jp hkl))) rfl) ?_;refine dq 27 (AI (r := .int .i64 ((a / 2 ^ k % 2 + b / 2 ^ k % 2 : Nat) : Int)) rfl rfl rfl (GR (LZ (by omega)))) ?_;refine wk 6 ?_;refine aq 30 (Ah Am rfl rfl rfl rfl rfl rfl rfl (by simp [Bm, C3 (Nat.le_of_lt hkl), BS]) rfl (Int.natCast_nonneg _) (by omega)) ?_
  refine AOps.w rfl rfl (o_store Am rfl rfl rfl rfl rfl rfl (by simp [Bm, C3 (Nat.le_of_lt hkl)]) (EF (KR hkl)) rfl (by decide) rfl Eu) ?_;refine wk 6 ?_;refine A7 33 (fun hb2 => ?_) fun hb2 => ?_
  .
   refine wk 4 ?_;refine A7 37 (fun hb3 => ?_) fun hb3 => ?_
   .
    refine wk 12 ?_;exact Yd
   refine wk 3 ?_;refine A7 40 (fun hb4 => ?_) fun hb4 => ?_
   .
    refine wk 5 ?_;refine asp 44 (fun hb5 => ?_) fun hb5 => ?_
    .
     refine wk 4 ?_;exact Yd
    refine wk 4 ?_;exact ZC
   refine wk 9 ?_;exact ZC
  refine wk 7 ?_;refine A7 40 (fun hb6 => ?_) fun hb6 => ?_
  .
   refine wk 5 ?_;refine asp 44 (fun hb7 => ?_) fun hb7 => ?_
   .
    refine wk 4 ?_;exact Yd
   refine wk 4 ?_;exact ZC
  refine wk 9 ?_;exact ZC
 refine BM ?_
 have hge : ¬ k < 32 := by have h := hb1; simp at h; omega
 obtain rfl : k = 32 := by omega
 rw [UU]
 refine wk 2 ?_;refine AGo.ghost (.freezeAll 7 0 rfl rfl (by simp [Bm, De])) ?_;refine wk 2 ?_;refine ax 49 (CT Try.func106 (To _ (De _ _ _) (VI _ _ _))) ?_;refine wk 2 ?_;exact Pv
theorem Sn (op : Int) (a b : Nat) (ha : a < 4294967296) (hb : b < 4294967296) (ho : op = 12 \/ op = 13) : APure Try.prog 96 [.int .i64 op, .int .u32 (a : Int), .int .u32 (b : Int)] (fun r => r = .int .u32 (ET op a b)) := by
 refine APure.of_body (n := 27) Am Try.func96 rfl rfl ?_;refine wk 10 ?_;refine asp 10 (fun hb1 => ?_) fun hb1 => ?_
 .
  refine act ?_
  have hb32 : 32 <= b := by have h := hb1; simp at h; omega
  refine wk 4 ?_;refine DO ⟨[_], ⟨rfl, trivial⟩, ?_, rfl⟩
  show AV.int .u32 _ = _
  rw [PF op hb32]
 refine BM ?_
 have hb32 : b < 32 := by have h := hb1; simp at h; omega
 refine wk 4 ?_;refine aq 12 (B1 Am rfl rfl rfl rfl rfl (B9 (by omega))) ?_;refine wk 8 ?_;refine Ee (γ := Nat) (fun k => ⟨27, (Ad (Ad (Ad (Ad Bt 0 (.int .i64 op)) 2 (.int .u32 (b : Int))) 7 (.int .u64 ((shN op a k : Nat) : Int))) 8 (.int .u32 (k : Int))), hNone⟩) (fun k => k <= b) (fun k => b - k) 0 (Sub.mk' BH FV) (Nat.zero_le _) ?_
 intro k hk
 refine wk 7 ?_;refine asp 15 (fun hb2 => ?_) fun hb2 => ?_
 .
  refine act ?_
  have hkl : k < b := by have h := hb2; simp at h; omega
  have hlt := M8 (op := op) ha k
  refine wk 8 ?_;refine asp 19 (fun hb3 => ?_) fun hb3 => ?_
  .
   refine wk 3 ?_;refine aq 21 (AI (r := .int .u64 ((2 * shN op a k : Nat) : Int)) rfl rfl rfl (Ln (a := 2) (b := shN op a k) (B9 (by omega)))) ?_;refine aq 22 (AI (r := .int .u64 ((2 * shN op a k % 4294967296 : Nat) : Int)) rfl rfl rfl (E9 (a := 2 * shN op a k) (b := 4294967296) (by decide))) ?_;exact ZG
  refine wk 3 ?_;refine aq 24 (AI (r := .int .u64 ((shN op a k / 2 : Nat) : Int)) rfl rfl rfl (Iz (a := shN op a k) (b := 2) (by decide) (B9 (by omega)))) ?_;exact ZG
 refine BM ?_
 obtain rfl : k = b := by have h := hb2; simp at h; omega
 refine wk 4 ?_;refine aq 26 (B1 Am rfl rfl rfl rfl rfl (CP (M8 ha _))) ?_;refine wk 2 ?_;refine DO ⟨[_], ⟨rfl, trivial⟩, ?_, rfl⟩
 show AV.int .u32 _ = _
 rw [M0 ha hb32 ho]
theorem RF (ok : Bool) : APure Try.prog 97 [.bool ok] (fun r => r = .int .u32 (bif ok then 1 else 0)) := by
 refine APure.of_body (n := 4) Am Try.func97 rfl rfl ?_;refine wk 9 ?_;refine asp 3 (fun hb1 => ?_) fun hb1 => ?_
 .
  refine wk 5 ?_;refine DO ⟨[_], ⟨rfl, trivial⟩, ?_, rfl⟩
  show AV.int .u32 _ = _
  simp [*]
 refine wk 6 ?_;refine DO ⟨[_], ⟨rfl, trivial⟩, ?_, rfl⟩
 show AV.int .u32 _ = _
 simp [*]
theorem P3 (op : Int) (a b : Nat) (ha : a < 4294967296) (hb : b < 4294967296) : APure Try.prog 74 [.int .i64 op, .int .u32 (a : Int), .int .u32 (b : Int)] (fun r => r = Ra (BC op a b)) := by
 refine APure.of_body (n := 80) Am Try.func74 rfl rfl ?_;refine wk 8 ?_;refine aq 11 (B1 Am rfl rfl rfl rfl rfl (B9 (by omega))) ?_;refine wk 1 ?_;refine aq 13 (B1 Am rfl rfl rfl rfl rfl (B9 (by omega))) ?_;refine wk 14 ?_;refine asp 15 (fun hb1 => ?_) fun hb1 => ?_
 .
  refine act ?_
  obtain rfl : op = 4 := by simpa using hb1
  refine wk 4 ?_;refine aq 19 (AI (r := .int .u64 ((a + b : Nat) : Int)) rfl rfl rfl (GR (B9 (by omega)))) ?_;refine aq 20 (AI (r := .int .u64 (((a + b) % 4294967296 : Nat) : Int)) rfl rfl rfl (E9 (a := a + b) (b := 4294967296) (by decide))) ?_;refine aq 21 (B1 Am rfl rfl rfl rfl rfl (CP (Nat.mod_lt _ (by decide)))) ?_;refine wk 4 ?_;refine ⟨[_, _], ⟨rfl, rfl, trivial⟩, ?_, rfl⟩
  show AV.tup _ = _
  rw [Ug]; rfl
 refine wk 6 ?_;refine asp 22 (fun hb2 => ?_) fun hb2 => ?_
 .
  refine act ?_
  obtain rfl : op = 5 := by simpa using hb2
  refine wk 3 ?_;refine aq 25 (AI (r := .int .u64 ((a + 4294967296 : Nat) : Int)) rfl rfl rfl (GR (b := 4294967296) (B9 (by omega)))) ?_;refine wk 1 ?_;refine aq 27 (AI (r := .int .u64 ((a + 4294967296 - b : Nat) : Int)) rfl rfl rfl (ebin_sub (by omega) (B9 (by omega)))) ?_;refine aq 28 (AI (r := .int .u64 (((a + 4294967296 - b) % 4294967296 : Nat) : Int)) rfl rfl rfl (E9 (a := a + 4294967296 - b) (b := 4294967296) (by decide))) ?_;refine aq 29 (B1 Am rfl rfl rfl rfl rfl (CP (Nat.mod_lt _ (by decide)))) ?_;refine wk 4 ?_;refine ⟨[_, _], ⟨rfl, rfl, trivial⟩, ?_, rfl⟩
  show AV.tup _ = _
  rw [Uc hb]; rfl
 refine wk 6 ?_;refine asp 30 (fun hb3 => ?_) fun hb3 => ?_
 .
  refine act ?_
  obtain rfl : op = 6 := by simpa using hb3
  have hab : a * b < 18446744073709551616 := by have := Nat.mul_lt_mul'' ha hb; omega
  refine wk 4 ?_;refine aq 34 (AI (r := .int .u64 ((a * b : Nat) : Int)) rfl rfl rfl (Ln (B9 hab))) ?_;refine aq 35 (AI (r := .int .u64 ((a * b % 4294967296 : Nat) : Int)) rfl rfl rfl (E9 (a := a * b) (b := 4294967296) (by decide))) ?_;refine aq 36 (B1 Am rfl rfl rfl rfl rfl (CP (Nat.mod_lt _ (by decide)))) ?_;refine wk 4 ?_;refine ⟨[_, _], ⟨rfl, rfl, trivial⟩, ?_, rfl⟩
  show AV.tup _ = _
  rw [Ud]; rfl
 refine wk 6 ?_;refine asp 37 (fun hb4 => ?_) fun hb4 => ?_
 .
  refine act ?_
  obtain rfl : op = 7 := by simpa using hb4
  refine wk 6 ?_;refine asp 40 (fun hb5 => ?_) fun hb5 => ?_
  .
   refine act ?_
   obtain rfl : b = 0 := by have h := hb5; simp at h; omega
   refine wk 6 ?_;refine ⟨[_, _], ⟨rfl, rfl, trivial⟩, ?_, rfl⟩
   show AV.tup _ = _
   rw [show (((0 : Nat) : Int)) = 0 from rfl, L3 _ _ (by simp)]; rfl
  refine BM ?_
  have hb0 : ¬ b = 0 := by have h := hb5; simp at h; omega
  have hda := Nat.div_le_self a b
  refine wk 5 ?_;refine aq 43 (AI (r := .int .u64 ((a / b : Nat) : Int)) rfl rfl rfl (Iz (Nat.pos_of_ne_zero hb0) (B9 (by omega)))) ?_;refine aq 44 (B1 Am rfl rfl rfl rfl rfl (CP (by omega))) ?_;refine wk 4 ?_;refine ⟨[_, _], ⟨rfl, rfl, trivial⟩, ?_, rfl⟩
  show AV.tup _ = _
  rw [Uf ha hb0]; rfl
 refine wk 6 ?_;refine asp 45 (fun hb6 => ?_) fun hb6 => ?_
 .
  refine act ?_
  obtain rfl : op = 8 := by simpa using hb6
  refine wk 6 ?_;refine asp 48 (fun hb7 => ?_) fun hb7 => ?_
  .
   refine act ?_
   obtain rfl : b = 0 := by have h := hb7; simp at h; omega
   refine wk 6 ?_;refine ⟨[_, _], ⟨rfl, rfl, trivial⟩, ?_, rfl⟩
   show AV.tup _ = _
   rw [show (((0 : Nat) : Int)) = 0 from rfl, L3 _ _ (by simp)]; rfl
  refine BM ?_
  have hb0 : ¬ b = 0 := by have h := hb7; simp at h; omega
  have hma := Nat.mod_lt a (Nat.pos_of_ne_zero hb0)
  refine wk 5 ?_;refine aq 51 (AI (r := .int .u64 ((a % b : Nat) : Int)) rfl rfl rfl (E9 (Nat.pos_of_ne_zero hb0))) ?_;refine aq 52 (B1 Am rfl rfl rfl rfl rfl (CP (by omega))) ?_;refine wk 4 ?_;refine ⟨[_, _], ⟨rfl, rfl, trivial⟩, ?_, rfl⟩
  show AV.tup _ = _
  rw [Ue hb0]; rfl
 refine wk 7 ?_;refine asp 53 (fun hb8 => ?_) fun hb8 => ?_
 .
  refine wk 5 ?_;exact Yb
 refine wk 6 ?_;refine asp 53 (fun hb9 => ?_) fun hb9 => ?_
 .
  refine wk 5 ?_;exact Yb
 refine wk 5 ?_;refine asp 53 (fun hb10 => ?_) fun hb10 => ?_
 .
  refine wk 3 ?_;exact Yb
 refine wk 7 ?_;refine asp 61 (fun hb11 => ?_) fun hb11 => ?_
 .
  refine wk 5 ?_;exact Zk
 refine wk 5 ?_;refine asp 61 (fun hb12 => ?_) fun hb12 => ?_
 .
  refine wk 3 ?_;exact Zk
 refine wk 6 ?_;refine asp 68 (fun hb13 => ?_) fun hb13 => ?_
 .
  refine act ?_
  obtain rfl : op = 14 := by simpa using hb13
  refine wk 5 ?_;refine ax 73 (CT Try.func97 (RF _)) ?_;refine wk 4 ?_;refine ⟨[_, _], ⟨rfl, rfl, trivial⟩, ?_, rfl⟩
  show AV.tup _ = _
  rw [Wn]; rfl
 refine wk 6 ?_;refine asp 74 (fun hb14 => ?_) fun hb14 => ?_
 .
  refine act ?_
  obtain rfl : op = 15 := by simpa using hb14
  refine wk 5 ?_;refine ax 79 (CT Try.func97 (RF _)) ?_;refine wk 4 ?_;refine ⟨[_, _], ⟨rfl, rfl, trivial⟩, ?_, rfl⟩
  show AV.tup _ = _
  rw [Wo]; rfl
 refine wk 8 ?_;exact HX
theorem Su (op a b : Int) (ha : CD a) (hb : CD b) : APure Try.prog 74 [.int .i64 op, .int .u32 a, .int .u32 b] (fun r => r = Ra (BC op a b)) := by
  obtain ⟨n, rfl⟩ := Int.eq_ofNat_of_zero_le ha.1
  obtain ⟨m, rfl⟩ := Int.eq_ofNat_of_zero_le hb.1
  exact P3 op n m (by have := ha.2; omega) (by have := hb.2; omega)
theorem Vf (C : Core) (hC : C.Ok) : APure Try.prog 13 [.agg C.cells] (fun r => r = .bool C.little) := by
 refine APure.of_body (n := 10) Am Try.func13 rfl rfl ?_;refine HV ?_;refine ax 1 (F9 2 0) ?_;refine wk 5 ?_;refine ax 4 (CT Try.func27 (S4 C 300 hC (by decide) (by decide))) ?_;refine am 5 ?_;refine A7 5 (fun hb1 => ?_) fun hb1 => ?_
 .
  refine wk 6 ?_;refine DO ⟨[_], ⟨rfl, trivial⟩, ?_, rfl⟩
  refine bc ?_
  unfold Core.little
  first | (simp_all; done) | (simp_all; omega)
 refine wk 6 ?_;refine DO ⟨[_], ⟨rfl, trivial⟩, ?_, rfl⟩
 refine bc ?_
 unfold Core.little
 first | (simp_all; done) | (simp_all; omega)
theorem S9 (x y : Mach) : APure Try.prog 17 [.agg (FH x), .agg (FH y)] (fun r => r = .bool (x.fin == y.fin && (x.out == y.out))) := by
 refine APure.of_body (n := 17) Am Try.func17 rfl rfl ?_;refine HV ?_;refine ax 2 (F9 3 0) ?_;refine ax 3 (F9 3 1) ?_;refine wk 10 ?_;refine A7 10 (fun hb1 => ?_) fun hb1 => ?_
 .
  refine wk 8 ?_;refine DO ⟨[_], ⟨rfl, trivial⟩, ?_, rfl⟩
  refine bc ?_
  simp_all [MN]
 refine wk 8 ?_;refine DO ⟨[_], ⟨rfl, trivial⟩, ?_, rfl⟩
 refine bc ?_
 simp_all [MN]
theorem Kp (l : List CE) (hlen : l.length <= maxLen) (hp : CE.partsL l <= 1000000) (hrec : ∀ x ∈ l, APure Try.prog 75 [(.lst false (x.kids.map CE.cells))] (fun r => r = .int .i64 (CE.partsL x.kids : Int))) : APure Try.prog 75 [(.lst false (l.map CE.cells))] (fun r => r = .int .i64 (CE.partsL l : Int)) := by
 refine APure.of_body (n := 22) Am Try.func75 rfl rfl ?_;refine wk 16 ?_;refine Bo (γ := Nat) 0 (fun k => ⟨22, (Ad (Ad (Ad Bt 0 (.lst false (l.map CE.cells))) 3 (.int .i64 ((CE.partsL (l.take k) + (l.length - k) : Nat) : Int))) 4 (.int .i64 (k : Int))), (Bl 0)⟩) (fun k => k <= l.length) (fun k => l.length - k) 0 (Sub.mk' (by repeat (first | exact ESub.new _ | refine ESub.put ?_ (by first | rfl | exact congrArg (fun n => some (AV.int .i64 n)) (by simp [CE.partsL])))) FV) (Nat.zero_le _) (fun _ => fun b hb => Bb hb) ?_
 intro k hk
 refine wk 8 ?_;refine asp 10 (fun hb1 => ?_) fun hb1 => ?_
 .
  refine act ?_
  have hkl : k < l.length := Bi hb1
  obtain ⟨x, hx⟩ := At hkl
  have htk := JE hx
  have hle := Mn (l := l) (k + 1)
  have hpk := Bf x
  have hln := partsL_len l
  have hrest := HK (l.drop (k + 1)) (l.take (k + 1))
  rw [List.take_append_drop] at hrest
  have hdl := partsL_len (l.drop (k + 1))
  rw [List.length_drop] at hdl
  refine wk 7 ?_;refine aq 16 (Ae Am rfl rfl rfl rfl rfl rfl (Int.natCast_nonneg _) (OK hx) rfl) ?_;refine wk 2 ?_;refine ax 19 (CT Try.func75 (hrec x (List.mem_of_getElem? hx))) ?_;refine aq 20 (AI (r := .int .i64 (((CE.partsL (l.take k) + (l.length - k) + CE.partsL x.kids : Nat) : Int))) rfl rfl rfl T6) ?_;refine wk 4 ?_;refine aq 12 (Cc rfl rfl hkl hlen) ?_;refine wk 2 ?_;exact ⟨k+1, Drop.mk' (by repeat (first | exact EDrop.new _ _ | refine EDrop.put ?_ (by first | rfl | exact congrArg (fun n => some (AV.int .i64 n)) (by rw [htk, Bf]; omega)) T3)) Hn, hkl, by omega⟩
 refine BM ?_
 have hke : k = l.length := Nat.le_antisymm hk (Bj hb1)
 refine wk 6 ?_;refine DO ⟨[_], ⟨rfl, trivial⟩, ?_, rfl⟩
 subst hke
 rw [List.take_length, Nat.sub_self]; rfl
theorem N2 : ∀ (n : Nat) (l : List CE), CE.partsL l <= n -> (∀ e ∈ l, e.Ok) -> l.length * 64 <= reachBytes -> CE.partsL l <= 1000000 -> APure Try.prog 75 [(.lst false (l.map CE.cells))] (fun r => r = .int .i64 (CE.partsL l : Int))
  | 0, l, hn, hk, hl, h1 => Kp l (Mv hl) h1 fun x hx => absurd (AW hx) (by have := Bf x; omega)
  | n + 1, l, hn, hk, hl, h1 => Kp l (Mv hl) h1 fun x hx => N2 n x.kids (by have := AW hx; have := Bf x; omega) (hk x hx).kidsOk.1 (hk x hx).kidsOk.2 (by have := AW hx; have := Bf x; omega)
theorem Kn (l : List CS) (hk : ∀ e ∈ l, e.Ok) (hlen : l.length <= maxLen) (hp : CS.partsL l <= 1000000) (hrec : ∀ x ∈ l, APure Try.prog 56 [(.lst false (x.thn.map CS.cells))] (fun r => r = .int .i64 (CS.partsL x.thn : Int)) /\ APure Try.prog 56 [(.lst false (x.els.map CS.cells))] (fun r => r = .int .i64 (CS.partsL x.els : Int))) : APure Try.prog 56 [(.lst false (l.map CS.cells))] (fun r => r = .int .i64 (CS.partsL l : Int)) := by
 refine APure.of_body (n := 36) Am Try.func56 rfl rfl ?_;refine wk 16 ?_;refine Bo (γ := Nat) 0 (fun k => ⟨36, (Ad (Ad (Ad Bt 0 (.lst false (l.map CS.cells))) 3 (.int .i64 ((CS.partsL (l.take k) + (l.length - k) : Nat) : Int))) 4 (.int .i64 (k : Int))), (Bl 0)⟩) (fun k => k <= l.length) (fun k => l.length - k) 0 (Sub.mk' (by repeat (first | exact ESub.new _ | refine ESub.put ?_ (by first | rfl | exact congrArg (fun n => some (AV.int .i64 n)) (by simp [CS.partsL])))) FV) (Nat.zero_le _) (fun _ => fun b hb => Bb hb) ?_
 intro k hkk
 refine wk 8 ?_;refine asp 10 (fun hb1 => ?_) fun hb1 => ?_
 .
  refine act ?_
  have hkl : k < l.length := Bi hb1
  obtain ⟨x, hx⟩ := At hkl
  have hxm := List.mem_of_getElem? hx
  have hxk := hk x hxm
  have htk := H9 hx
  have hpk := BG x
  have hrest := Gy (l.drop (k + 1)) (l.take (k + 1))
  rw [List.take_append_drop] at hrest
  have hdl := spartsL_len (l.drop (k + 1))
  rw [List.length_drop] at hdl
  refine wk 7 ?_;refine dq 16 (Ae Am rfl rfl rfl rfl rfl rfl (Int.natCast_nonneg _) (LV hx) rfl) ?_;refine wk 2 ?_;refine dx 19 (CT Try.func75 (N2 _ x.es (Nat.le_refl _) hxk.esOk.1 hxk.esOk.2 (by omega))) ?_;refine dq 20 (AI (r := .int .i64 (((CS.partsL (l.take k) + (l.length - k) + CE.partsL x.es : Nat) : Int))) rfl rfl rfl T6) ?_;refine wk 2 ?_;refine dq 23 (Ae Am rfl rfl rfl rfl rfl rfl (Int.natCast_nonneg _) (LV hx) rfl) ?_;refine wk 2 ?_;refine dx 26 (CT Try.func56 ((hrec x hxm).1)) ?_;refine dq 27 (AI (r := .int .i64 (((CS.partsL (l.take k) + (l.length - k) + CE.partsL x.es + CS.partsL x.thn : Nat) : Int))) rfl rfl rfl T6) ?_;refine wk 2 ?_;refine dq 30 (Ae Am rfl rfl rfl rfl rfl rfl (Int.natCast_nonneg _) (LV hx) rfl) ?_;refine wk 2 ?_;refine dx 33 (CT Try.func56 ((hrec x hxm).2)) ?_;refine dq 34 (AI (r := .int .i64 (((CS.partsL (l.take k) + (l.length - k) + CE.partsL x.es + CS.partsL x.thn + CS.partsL x.els : Nat) : Int))) rfl rfl rfl T6) ?_
  refine wk 4 ?_;refine aq 12 (Cc rfl rfl hkl hlen) ?_;refine wk 2 ?_;exact ⟨k+1, Drop.mk' (by repeat (first | exact EDrop.new _ _ | refine EDrop.put ?_ (by first | rfl | exact congrArg (fun n => some (AV.int .i64 n)) (by rw [htk, BG]; omega)) T3)) Hn, hkl, by omega⟩
 refine BM ?_
 have hke : k = l.length := Nat.le_antisymm hkk (Bj hb1)
 refine wk 6 ?_;refine DO ⟨[_], ⟨rfl, trivial⟩, ?_, rfl⟩
 subst hke
 rw [List.take_length, Nat.sub_self]; rfl
theorem Ko : ∀ (n : Nat) (l : List CS), CS.partsL l <= n -> (∀ e ∈ l, e.Ok) -> l.length * 96 <= reachBytes -> CS.partsL l <= 1000000 -> APure Try.prog 56 [(.lst false (l.map CS.cells))] (fun r => r = .int .i64 (CS.partsL l : Int))
  | 0, l, hn, hk, hl, h1 => Kn l hk (Is hl) h1 fun x hx => absurd (AO hx) (by have := BG x; omega)
  | n + 1, l, hn, hk, hl, h1 => Kn l hk (Is hl) h1 fun x hx => ⟨Ko n x.thn (by have := AO hx; have := BG x; omega) (hk x hx).thnOk.1 (hk x hx).thnOk.2 (by have := AO hx; have := BG x; omega), Ko n x.els (by have := AO hx; have := BG x; omega) (hk x hx).elsOk.1 (hk x hx).elsOk.2 (by have := AO hx; have := BG x; omega)⟩
theorem Si (C : Core) (hC : C.Ok) (hp : C.parts <= 1000000) : APure Try.prog 35 [.agg C.cells] (fun r => r = .int .i64 (C.parts : Int)) := by
 refine APure.of_body (n := 22) Am Try.func35 rfl rfl ?_;refine HV ?_;refine ax 1 (F9 2 0) ?_;refine wk 12 ?_;refine Bo (γ := Nat) 1 (fun k => ⟨22, (Ad (Ad (Ad Bt 1 (.ptr 0 1 0 0)) 3 (.int .i64 ((((C.funcs.take k).map fun f => CS.partsL f.body).sum : Nat) : Int))) 4 (.int .i64 (k : Int))), (hput (Bl 1) 0 (.row false 2 [C.cells]))⟩) (fun k => k <= C.funcs.length) (fun k => C.funcs.length - k) 0 (Sub.mk' BH FV) (Nat.zero_le _) (fun _ => AQ (fun b hb => Bb hb) rfl) ?_
 intro k hkk
 refine wk 9 ?_;refine asp 9 (fun hb1 => ?_) fun hb1 => ?_
 .
  refine act ?_
  have hkl : k < C.funcs.length := Bi hb1
  obtain ⟨x, hx⟩ := At hkl
  have hxm := List.mem_of_getElem? hx
  have htk := sum_succ (p := fun f : CFn => CS.partsL f.body) hx
  have hle := WA (k + 1) C
  have hxb := E1 hxm
  refine wk 8 ?_;refine aq 16 (Ae Am rfl rfl rfl rfl rfl rfl (Int.natCast_nonneg _) (Cg (by assumption)) rfl) ?_;refine wk 2 ?_;refine ax 19 (CT Try.func56 (Ko _ x.body (Nat.le_refl _) (hC.funcs x hxm).body (hC.funcs x hxm).len (by omega))) ?_;refine aq 20 (AI (r := .int .i64 ((((((C.funcs.take k).map fun f => CS.partsL f.body).sum + CS.partsL x.body) : Nat) : Int))) rfl rfl rfl T6) ?_;refine wk 4 ?_;refine aq 11 (Cc rfl rfl hkl (Rx hC.len)) ?_;refine wk 2 ?_;exact ⟨k+1, Drop.mk' (by repeat (first | exact EDrop.new _ _ | refine EDrop.put ?_ (by first | rfl | exact congrArg (fun n => some (AV.int .i64 n)) (by rw [htk])) T3)) Hn, hkl, by omega⟩
 refine BM ?_
 have hke : k = C.funcs.length := Nat.le_antisymm hkk (Bj hb1)
 refine wk 6 ?_;refine DO ⟨[_], ⟨rfl, trivial⟩, ?_, rfl⟩
 subst hke
 rw [List.take_length]; rfl
theorem MB (C : Core) (ticks : Int) (hC : C.Ok) (hp : C.parts <= 1000000) (h0 : 0 <= C.words) (h1 : C.words <= 1000000) (h2 : 0 <= ticks) (h3 : ticks <= 100000) : APure Try.prog 19 [.agg C.cells, .int .i64 ticks] (fun r => r = .int .i64 ((ticks + 1) * C.k)) := by
 refine APure.of_body (n := 15) Am Try.func19 rfl rfl ?_;refine HV ?_;refine ax 2 (F9 2 0) ?_;refine wk 5 ?_;refine dq 6 (AI (r := .int .i64 (ticks + 1)) rfl rfl rfl Dz) ?_;refine dq 7 (AI (r := .int .i64 ((ticks + 1) * 8)) rfl rfl rfl Dz) ?_;refine wk 1 ?_;refine dx 9 (CT Try.func35 (Si C hC hp)) ?_;refine wk 2 ?_;refine dq 12 (AI (r := .int .i64 ((C.parts : Int) + C.words)) rfl rfl rfl Dz) ?_;refine dq 13 (AI (r := .int .i64 ((C.parts : Int) + C.words + 1)) rfl rfl rfl Dz) ?_;refine dq 14 (AI (r := .int .i64 ((ticks + 1) * C.k)) rfl rfl rfl (by simp only [A3, BA, isShift, cond_false, if_true]; rw [show (ticks + 1) * 8 * ((C.parts : Int) + C.words + 1) = (ticks + 1) * C.k from WX h0 ticks, Bz (RD hp h0 h1 h2 h3).1 (RD hp h0 h1 h2 h3).2])) ?_;refine wk 2 ?_;exact Pv
theorem Ws (t : Tac) : APure Try.prog 69 [.agg t.cells] (fun r => r = .int .i64 t.sets) := by
 refine APure.of_body (n := 14) Am Try.func69 rfl rfl ?_;refine HV ?_;refine ax 1 (F9 8 0) ?_;refine wk 15 ?_;refine asp 5 (fun hb1 => ?_) fun hb1 => ?_
 .
  refine wk 9 ?_;exact Px
 refine wk 6 ?_;refine asp 5 (fun hb2 => ?_) fun hb2 => ?_
 .
  refine wk 9 ?_;exact Px
 refine wk 6 ?_;refine asp 5 (fun hb3 => ?_) fun hb3 => ?_
 .
  refine wk 9 ?_;exact Px
 refine wk 6 ?_;refine asp 5 (fun hb4 => ?_) fun hb4 => ?_
 .
  refine wk 9 ?_;exact Px
 refine wk 6 ?_;refine asp 5 (fun hb5 => ?_) fun hb5 => ?_
 .
  refine wk 9 ?_;exact Px
 refine wk 5 ?_;refine asp 5 (fun hb6 => ?_) fun hb6 => ?_
 .
  refine wk 7 ?_;exact Px
 refine wk 6 ?_;exact Px
theorem Wp (t : Tac) : APure Try.prog 70 [.agg t.cells] (fun r => r = No t.uses) := by
 refine APure.of_body (n := 21) Am Try.func70 rfl rfl ?_;refine HV ?_;refine ax 1 (F9 8 0) ?_;refine wk 15 ?_;refine asp 5 (fun hb1 => ?_) fun hb1 => ?_
 .
  refine wk 7 ?_;exact V6
 refine wk 6 ?_;refine asp 5 (fun hb2 => ?_) fun hb2 => ?_
 .
  refine wk 7 ?_;exact V6
 refine wk 6 ?_;refine asp 5 (fun hb3 => ?_) fun hb3 => ?_
 .
  refine wk 7 ?_;exact V6
 refine wk 5 ?_;refine asp 5 (fun hb4 => ?_) fun hb4 => ?_
 .
  refine wk 5 ?_;exact V6
 refine wk 7 ?_;refine asp 13 (fun hb5 => ?_) fun hb5 => ?_
 .
  refine wk 9 ?_;refine ax 20 (D4 Am rfl rfl rfl rfl rfl rfl (by decide) rfl rfl rfl rfl rfl rfl) ?_;refine wk 2 ?_;exact Wd
 refine wk 5 ?_;refine asp 13 (fun hb6 => ?_) fun hb6 => ?_
 .
  refine wk 7 ?_;refine ax 20 (D4 Am rfl rfl rfl rfl rfl rfl (by decide) rfl rfl rfl rfl rfl rfl) ?_;refine wk 2 ?_;exact Wd
 refine wk 6 ?_;refine AGo.ghost (.empty 2 rfl) ?_;exact Wd
theorem BN (i j : Int) : APure Try.prog 68 [.int .i64 i, .int .i64 j] (fun r => r = .bool (AY i j)) := by
 refine APure.of_body (n := 12) Am Try.func68 rfl rfl ?_;refine wk 9 ?_;refine A7 7 (fun hb1 => ?_) fun hb1 => ?_
 .
  refine wk 6 ?_;refine DO ⟨[_], ⟨rfl, trivial⟩, ?_, rfl⟩
  refine bc ?_
  simp_all [AY] <;> omega
 refine wk 6 ?_;refine DO ⟨[_], ⟨rfl, trivial⟩, ?_, rfl⟩
 refine bc ?_
 simp_all [AY] <;> omega
theorem W3 (b : Block) (blocks regs : Int) : APure Try.prog 51 [.agg b.cells, .int .i64 blocks, .int .i64 regs] (fun r => r = .bool (b.ends blocks regs)) := by
 refine APure.of_body (n := 61) Am Try.func51 rfl rfl ?_;refine HV ?_;refine ax 3 (F9 5 0) ?_;refine wk 14 ?_;refine asp 9 (fun hb1 => ?_) fun hb1 => ?_
 .
  refine wk 6 ?_;refine ax 14 (CT Try.func68 (BN _ _)) ?_;refine wk 1 ?_;refine A7 15 (fun hb2 => ?_) fun hb2 => ?_
  .
   refine wk 5 ?_;refine A7 20 (fun hb3 => ?_) fun hb3 => ?_
   .
    refine wk 6 ?_;exact LQ
   refine wk 6 ?_;exact LQ
  refine wk 11 ?_;exact LQ
 refine wk 6 ?_;refine asp 25 (fun hb4 => ?_) fun hb4 => ?_
 .
  refine wk 6 ?_;refine ax 30 (CT Try.func68 (BN _ _)) ?_;refine wk 1 ?_;refine A7 31 (fun hb5 => ?_) fun hb5 => ?_
  .
   refine wk 3 ?_;refine ax 35 (CT Try.func68 (BN _ _)) ?_;refine wk 2 ?_;refine A7 37 (fun hb6 => ?_) fun hb6 => ?_
   .
    refine wk 3 ?_;refine ax 41 (CT Try.func68 (BN _ _)) ?_;refine wk 3 ?_;exact LQ
   refine wk 7 ?_;exact LQ
  refine wk 13 ?_;exact LQ
 refine wk 8 ?_;refine A7 46 (fun hb7 => ?_) fun hb7 => ?_
 .
  refine wk 5 ?_;refine A7 51 (fun hb8 => ?_) fun hb8 => ?_
  .
   refine wk 5 ?_;refine A7 56 (fun hb9 => ?_) fun hb9 => ?_
   .
    refine wk 6 ?_;exact LQ
   refine wk 6 ?_;exact LQ
  refine wk 11 ?_;exact LQ
 refine wk 16 ?_;exact LQ
theorem WZ (t : Tac) (f regs words : Int) (hw : 0 <= words) (hw2 : words <= 1048576) : APure Try.prog 52 [.agg t.cells, .int .i64 f, .int .i64 regs, .int .i64 words] (fun r => r = .bool (t.fits f regs words)) := by
 refine APure.of_body (n := 166) Am Try.func52 rfl rfl ?_;refine HV ?_;refine ax 4 (F9 8 0) ?_;refine wk 9 ?_;refine A7 15 (fun hb1 => ?_) fun hb1 => ?_
 .
  refine wk 10 ?_;refine DO ⟨[_], ⟨rfl, trivial⟩, ?_, rfl⟩
  refine bc ?_;exact (fits_op (by simp_all <;> omega)).symm
 refine wk 5 ?_;refine asp 19 (fun hb2 => ?_) fun hb2 => ?_
 .
  refine wk 5 ?_;refine DO ⟨[_], ⟨rfl, trivial⟩, ?_, rfl⟩
  refine bc ?_;exact (fits_op (by simp_all <;> omega)).symm
 refine wk 7 ?_;refine ax 9 (KJ Am 1) ?_;refine wk 3 ?_;refine AGo.join (γ := Int) (fun d => ⟨166, (Ad (Ad (Ad (Ad (Ad Bt 1 (.int .i64 f)) 2 (.int .i64 regs)) 3 (.int .i64 words)) 4 (.ptr 0 1 0 0)) 9 (.ptr 1 1 0 0)), (hput (hput (Bl 2) 0 (.row false 8 [t.cells])) 1 (.row false 8 [[.int .i64 t.op, .int .i64 d, .int .i64 0, .int .i64 0, .int .i64 0, .int .i64 0, .int .i64 0, .int .u32 0]]))⟩) (fun d => (!setsOp t.op || AY t.d regs) = true /\ d = bif setsOp t.op then t.d else 0) ?_ ?_
 .
  refine wk 3 ?_;refine ax 24 (CT Try.func69 (Ws _)) ?_;refine wk 2 ?_;refine A7 26 (fun hb3 => ?_) fun hb3 => ?_
  .
   refine wk 43 ?_;refine ax 62 (CT Try.func68 (BN _ _)) ?_;refine wk 2 ?_;refine asp 63 (fun hb4 => ?_) fun hb4 => ?_
   .
    exact Py
   exact PA
  refine wk 5 ?_;refine A7 31 (fun hb5 => ?_) fun hb5 => ?_
  .
   refine wk 38 ?_;refine ax 62 (CT Try.func68 (BN _ _)) ?_;refine wk 2 ?_;refine asp 63 (fun hb6 => ?_) fun hb6 => ?_
   .
    exact Py
   exact PA
  refine wk 5 ?_;refine A7 36 (fun hb7 => ?_) fun hb7 => ?_
  .
   refine wk 33 ?_;refine ax 62 (CT Try.func68 (BN _ _)) ?_;refine wk 2 ?_;refine asp 63 (fun hb8 => ?_) fun hb8 => ?_
   .
    exact Py
   exact PA
  refine wk 5 ?_;refine A7 41 (fun hb9 => ?_) fun hb9 => ?_
  .
   refine wk 28 ?_;refine ax 62 (CT Try.func68 (BN _ _)) ?_;refine wk 2 ?_;refine asp 63 (fun hb10 => ?_) fun hb10 => ?_
   .
    exact Py
   exact PA
  refine wk 5 ?_;refine A7 46 (fun hb11 => ?_) fun hb11 => ?_
  .
   refine wk 23 ?_;refine ax 62 (CT Try.func68 (BN _ _)) ?_;refine wk 2 ?_;refine asp 63 (fun hb12 => ?_) fun hb12 => ?_
   .
    exact Py
   exact PA
  refine wk 5 ?_;refine A7 51 (fun hb13 => ?_) fun hb13 => ?_
  .
   refine wk 18 ?_;refine ax 62 (CT Try.func68 (BN _ _)) ?_;refine wk 2 ?_;refine asp 63 (fun hb14 => ?_) fun hb14 => ?_
   .
    exact Py
   exact PA
  refine wk 5 ?_;refine asp 55 (fun hb15 => ?_) fun hb15 => ?_
  .
   refine wk 13 ?_;refine ax 62 (CT Try.func68 (BN _ _)) ?_;refine wk 2 ?_;refine asp 63 (fun hb16 => ?_) fun hb16 => ?_
   .
    exact Py
   exact PA
  refine wk 2 ?_;exact ⟨0, Sub.mk' BH FV, ⟨by simp [setsOp, *], by simp [setsOp, *]⟩⟩
 intro d ⟨hd, hdd⟩
 refine wk 3 ?_;refine ax 65 (CT Try.func70 (Wp _)) ?_;refine wk 8 ?_;refine Bo (γ := Nat) 2 (fun j => ⟨166, (Ad (Ad (Ad (Ad (Ad (Ad (Ad Bt 1 (.int .i64 f)) 2 (.int .i64 regs)) 3 (.int .i64 words)) 4 (.ptr 0 1 0 0)) 9 (.ptr 1 1 0 0)) 10 (No t.uses)) 11 (.int .i64 (j : Int))), (hput (hput (Bl 2) 0 (.row false 8 [t.cells])) 1 (.row false 8 [[.int .i64 t.op, .int .i64 d, .int .i64 0, .int .i64 0, .int .i64 0, .int .i64 0, .int .i64 0, .int .u32 0]]))⟩) (fun j => (t.uses.take j).all (fun r => AY r regs) = true) (fun j => t.uses.length - j) 0 (Sub.mk' BH FV) rfl (fun _ => AQ (AQ (fun b hb => Bb hb) rfl) rfl) ?_
 intro j hj
 refine wk 8 ?_;refine asp 69 (fun hb17 => ?_) fun hb17 => ?_
 .
  refine act ?_
  have hjl : j < t.uses.length := Bi hb17
  obtain ⟨u, hu⟩ := At hjl
  refine wk 7 ?_;refine aq 74 (Ae Am rfl rfl rfl rfl rfl rfl (Int.natCast_nonneg _) (Cg (by assumption)) rfl) ?_;refine wk 2 ?_;refine ax 77 (CT Try.func68 (BN _ _)) ?_;refine wk 2 ?_;refine asp 78 (fun hb18 => ?_) fun hb18 => ?_
  .
   refine act ?_
   have hbw := hb18
   refine wk 4 ?_;refine DO ⟨[_], ⟨rfl, trivial⟩, ?_, rfl⟩
   refine bc ?_;exact (Vd (Dg hu (by simpa using hbw))).symm
  refine BM ?_
  have hbw := hb18
  refine wk 3 ?_;refine aq 71 (Cc rfl rfl hjl (Nat.le_trans (Uh t) (by decide))) ?_;exact Zv
 refine BM ?_
 have hall := all_end hj (Bj hb17)
 refine wk 2 ?_;refine AGo.join (γ := Int) (fun a => ⟨166, (Ad (Ad (Ad (Ad (Ad (Ad Bt 1 (.int .i64 f)) 2 (.int .i64 regs)) 3 (.int .i64 words)) 4 (.ptr 0 1 0 0)) 9 (.ptr 1 1 0 0)) 10 (No t.uses)), (hput (hput (Bl 2) 0 (.row false 8 [t.cells])) 1 (.row false 8 [[.int .i64 t.op, .int .i64 d, .int .i64 a, .int .i64 0, .int .i64 0, .int .i64 0, .int .i64 0, .int .u32 0]]))⟩) (fun a => a = bif use1 t.op || use2 t.op then t.a else 0) ?_ ?_
 .
  refine wk 6 ?_;refine asp 81 (fun hb19 => ?_) fun hb19 => ?_
  .
   refine wk 7 ?_;exact ⟨t.a, Sub.mk' BH FV, by have h3 := Rg t.op; cases h1 : use1 t.op <;> cases h2 : use2 t.op <;> simp_all [Tac.uses]⟩
  exact ZA
 intro a haa
 refine asq ?_;refine AGo.join (γ := Int) (fun b => ⟨166, (Ad (Ad (Ad (Ad (Ad Bt 1 (.int .i64 f)) 2 (.int .i64 regs)) 3 (.int .i64 words)) 4 (.ptr 0 1 0 0)) 9 (.ptr 1 1 0 0)), (hput (hput (Bl 2) 0 (.row false 8 [t.cells])) 1 (.row false 8 [[.int .i64 t.op, .int .i64 d, .int .i64 a, .int .i64 b, .int .i64 0, .int .i64 0, .int .i64 0, .int .u32 0]]))⟩) (fun b => b = bif use2 t.op then t.b else 0) ?_ ?_
 .
  refine wk 6 ?_;refine asp 87 (fun hb20 => ?_) fun hb20 => ?_
  .
   refine wk 7 ?_;exact ⟨t.b, Sub.mk' BH FV, by have h3 := Rg t.op; cases h1 : use1 t.op <;> cases h2 : use2 t.op <;> simp_all [Tac.uses]⟩
  exact ZA
 intro b hbb
 refine wk 12 ?_;refine asp 93 (fun hb21 => ?_) fun hb21 => ?_
 .
  refine wk 11 ?_;exact Xx
 refine wk 6 ?_;refine asp 98 (fun hb22 => ?_) fun hb22 => ?_
 .
  refine wk 14 ?_;refine A7 106 (fun hb23 => ?_) fun hb23 => ?_
  .
   refine wk 10 ?_;exact TY
  refine wk 5 ?_;refine asp 110 (fun hb24 => ?_) fun hb24 => ?_
  .
   refine wk 5 ?_;exact TY
  refine wk 6 ?_;exact Xx
 refine wk 7 ?_;refine asp 111 (fun hb25 => ?_) fun hb25 => ?_
 .
  refine wk 15 ?_;refine ax 120 (CT Try.func68 (BN _ _)) ?_;refine wk 2 ?_;refine asp 121 (fun hb26 => ?_) fun hb26 => ?_
  .
   refine wk 5 ?_;exact TY
  refine wk 6 ?_;exact Xx
 refine wk 5 ?_;refine asp 111 (fun hb27 => ?_) fun hb27 => ?_
 .
  refine wk 13 ?_;refine ax 120 (CT Try.func68 (BN _ _)) ?_;refine wk 2 ?_;refine asp 121 (fun hb28 => ?_) fun hb28 => ?_
  .
   refine wk 5 ?_;exact TY
  refine wk 6 ?_;exact Xx
 refine wk 7 ?_;refine asp 122 (fun hb29 => ?_) fun hb29 => ?_
 .
  refine wk 20 ?_;refine A7 134 (fun hb30 => ?_) fun hb30 => ?_
  .
   refine wk 24 ?_;exact NK
  refine wk 5 ?_;refine A7 139 (fun hb31 => ?_) fun hb31 => ?_
  .
   refine wk 19 ?_;exact NK
  refine wk 5 ?_;refine A7 144 (fun hb32 => ?_) fun hb32 => ?_
  .
   refine wk 14 ?_;exact NK
  refine wk 9 ?_;refine asp 152 (fun hb33 => ?_) fun hb33 => ?_
  .
   refine wk 5 ?_;exact NK
  refine wk 6 ?_;exact Xx
 refine wk 5 ?_;refine asp 122 (fun hb34 => ?_) fun hb34 => ?_
 .
  refine wk 18 ?_;refine A7 134 (fun hb35 => ?_) fun hb35 => ?_
  .
   refine wk 24 ?_;exact NK
  refine wk 5 ?_;refine A7 139 (fun hb36 => ?_) fun hb36 => ?_
  .
   refine wk 19 ?_;exact NK
  refine wk 5 ?_;refine A7 144 (fun hb37 => ?_) fun hb37 => ?_
  .
   refine wk 14 ?_;exact NK
  refine wk 9 ?_;refine asp 152 (fun hb38 => ?_) fun hb38 => ?_
  .
   refine wk 5 ?_;exact NK
  refine wk 6 ?_;exact Xx
 refine wk 6 ?_;refine asp 153 (fun hb39 => ?_) fun hb39 => ?_
 .
  refine wk 13 ?_;refine ax 161 (CT Try.func68 (BN _ _)) ?_;refine wk 2 ?_;refine asp 162 (fun hb40 => ?_) fun hb40 => ?_
  .
   refine wk 5 ?_;exact TY
  refine wk 6 ?_;exact Xx
 refine wk 6 ?_;exact Xx
theorem Yx (f : BFunc) (number words : Int) (hw : 0 <= words) (hw2 : words <= 1048576) : APure Try.prog 32 [.agg f.cells, .int .i64 number, .int .i64 words] (fun r => r = .bool (f.one number words)) := by
 refine APure.of_body (n := 68) Am Try.func32 rfl rfl ?_;refine asq ?_;refine AGo.slot 0 rfl (fun H ι v => St) (fun hfit => ?_)
 refine agr ?_;refine ax 3 (F9 2 0) ?_;refine wk 9 ?_;refine A7 12 (fun hb1 => ?_) fun hb1 => ?_
 .
  refine wk 16 ?_;exact T1
 refine wk 5 ?_;refine A7 17 (fun hb2 => ?_) fun hb2 => ?_
 .
  refine wk 11 ?_;exact T1
 refine wk 6 ?_;refine asp 22 (fun hb3 => ?_) fun hb3 => ?_
 .
  refine wk 5 ?_;exact T1
 refine BM ?_
 have h0 : 0 <= f.regs /\ f.regs <= 4000 /\ f.blocks.length ≠ 0 := by simp_all <;> omega
 refine wk 7 ?_;refine Bo (γ := Nat) 1 (fun k => ⟨68, (Ad (Ad (Ad (Ad Bt 1 (.int .i64 number)) 2 (.int .i64 words)) 3 (.ptr 0 1 0 0)) 7 (.int .i64 (k : Int))), (hput (Bl 1) 0 (.row false 2 [f.cells]))⟩) (fun k => (f.blocks.take k).all (fun x => x.ok f.blocks.length f.regs number words) = true) (fun k => f.blocks.length - k) 0 (Sub.mk' BH FV) rfl (fun _ => AQ (fun b hb => Bb hb) rfl) ?_
 intro k hk
 refine wk 9 ?_;refine asp 27 (fun hb4 => ?_) fun hb4 => ?_
 .
  refine act ?_
  have hkl : k < f.blocks.length := Bi hb4
  obtain ⟨x, hx⟩ := At hkl
  refine wk 9 ?_;refine dq 33 (Ae Am rfl rfl rfl rfl rfl rfl (Int.natCast_nonneg _) (Cg (by assumption)) rfl) ?_;refine wk 6 ?_;refine dx 40 (CT Try.func51 (W3 x _ _)) ?_;refine dq 41 (On rfl rfl) ?_;refine wk 1 ?_;refine asp 41 (fun hb5 => ?_) fun hb5 => ?_
  .
   refine act ?_
   have hends : x.ends f.blocks.length f.regs = false := by simpa using hb5
   refine wk 4 ?_;refine DO ⟨[_], ⟨rfl, trivial⟩, ?_, rfl⟩
   refine bc ?_
   rw [Nh h0.1 h0.2.1 h0.2.2, Dg hx (by simp [Block.ok, hends])]
  refine BM ?_
  have hends : x.ends f.blocks.length f.regs = true := by simpa using hb5
  refine wk 6 ?_;refine Bo (γ := Nat) 1 (fun j => ⟨68, (Ad (Ad (Ad (Ad (Ad Bt 1 (.int .i64 number)) 2 (.int .i64 words)) 3 (.ptr 0 1 0 0)) 7 (.int .i64 (k : Int))) 8 (.int .i64 (j : Int))), (hput (Bl 1) 0 (.row false 2 [f.cells]))⟩) (fun j => (x.ins.take j).all (fun t => t.fits number f.regs words) = true) (fun j => x.ins.length - j) 0 (Sub.mk' BH FV) rfl (fun _ => AQ (fun b hb => Bb hb) rfl) ?_
  intro j hj
  refine wk 7 ?_;refine aq 46 (Ae Am rfl rfl rfl rfl rfl rfl (Int.natCast_nonneg _) (Cg (by assumption)) rfl) ?_;refine wk 5 ?_;refine asp 50 (fun hb6 => ?_) fun hb6 => ?_
  .
   refine act ?_
   have hjl : j < x.ins.length := Bi hb6
   obtain ⟨u, hu⟩ := At hjl
   refine wk 8 ?_;refine dq 56 (Ae Am rfl rfl rfl rfl rfl rfl (Int.natCast_nonneg _) (Cg (by assumption)) rfl) ?_;refine wk 3 ?_;refine dq 60 (Ae Am rfl rfl rfl rfl rfl rfl (Int.natCast_nonneg _) (Cg (by assumption)) rfl) ?_;refine wk 5 ?_;refine dx 66 (CT Try.func52 (WZ u _ _ _ hw hw2)) ?_;refine dq 67 (On rfl rfl) ?_;refine wk 1 ?_;refine asp 67 (fun hb7 => ?_) fun hb7 => ?_
   .
    refine act ?_
    have hbw := hb7
    refine wk 4 ?_;refine DO ⟨[_], ⟨rfl, trivial⟩, ?_, rfl⟩
    refine bc ?_
    rw [Nh h0.1 h0.2.1 h0.2.2, Dg hx (by simp only [Block.ok, Dg (p := fun t => Tac.fits t number f.regs words) hu (by simpa using hbw), Bool.and_false])]
   refine BM ?_
   have hbw := hb7
   refine wk 3 ?_;refine aq 52 (Cc rfl rfl hjl (hfit.2 x (List.mem_of_getElem? hx))) ?_;exact Zv
  refine BM ?_
  have hins := all_end hj (Bj hb6)
  refine wk 3 ?_;refine aq 29 (Cc rfl rfl hkl hfit.1) ?_;refine wk 2 ?_;exact ⟨k+1, Drop.mk' JY Hn, FT hx hk (by simp [Block.ok, hends, hins]), by omega⟩
 refine BM ?_
 have hall := all_end hk (Bj hb4)
 refine wk 5 ?_;refine DO ⟨[_], ⟨rfl, trivial⟩, ?_, rfl⟩
 refine bc ?_
 rw [Nh h0.1 h0.2.1 h0.2.2, hall]
theorem Uv (b : Blocks) : APure Try.prog 15 [.agg b.cells] (fun r => r = .bool b.right) := by
 refine APure.of_body (n := 35) Am Try.func15 rfl rfl ?_;refine asq ?_;refine AGo.slot 0 rfl (fun H ι v => Of) (fun hfit => ?_)
 refine agr ?_;refine ax 1 (F9 2 0) ?_;refine wk 9 ?_;refine A7 7 (fun hb1 => ?_) fun hb1 => ?_
 .
  refine wk 16 ?_;exact XX
 refine wk 5 ?_;refine A7 12 (fun hb2 => ?_) fun hb2 => ?_
 .
  refine wk 11 ?_;exact XX
 refine wk 6 ?_;refine asp 17 (fun hb3 => ?_) fun hb3 => ?_
 .
  refine wk 5 ?_;exact XX
 refine BM ?_
 have h0 : 0 <= b.words /\ b.words <= 1048576 /\ b.funcs.length ≠ 0 := by simp_all <;> omega
 refine wk 7 ?_;refine Bo (γ := Nat) 1 (fun k => ⟨35, (Ad (Ad Bt 1 (.ptr 0 1 0 0)) 3 (.int .i64 (k : Int))), (hput (Bl 1) 0 (.row false 2 [b.cells]))⟩) (fun k => (b.funcs.zipIdx.take k).all (fun p => p.1.one (p.2 : Int) b.words) = true) (fun k => b.funcs.length - k) 0 (Sub.mk' BH FV) rfl (fun _ => AQ (fun b hb => Bb hb) rfl) ?_
 intro k hk
 refine wk 9 ?_;refine asp 22 (fun hb4 => ?_) fun hb4 => ?_
 .
  refine act ?_
  have hkl : k < b.funcs.length := Bi hb4
  obtain ⟨x, hx⟩ := At hkl
  refine wk 8 ?_;refine dq 28 (Ae Am rfl rfl rfl rfl rfl rfl (Int.natCast_nonneg _) (Cg (by assumption)) rfl) ?_;refine wk 4 ?_;refine dx 33 (CT Try.func32 (Yx x _ _ h0.1 h0.2.1)) ?_;refine dq 34 (On rfl rfl) ?_;refine wk 1 ?_;refine asp 34 (fun hb5 => ?_) fun hb5 => ?_
  .
   refine act ?_
   have hone := hb5
   refine wk 4 ?_;refine DO ⟨[_], ⟨rfl, trivial⟩, ?_, rfl⟩
   refine bc ?_
   rw [Mf h0.1 h0.2.1 h0.2.2, Dg (CF hx) (by simpa using hone)]
  refine BM ?_
  have hone := hb5
  refine wk 3 ?_;refine aq 24 (Cc rfl rfl hkl hfit.1) ?_;refine wk 2 ?_;exact ⟨k+1, Drop.mk' JY Hn, FT (CF hx) hk (by simpa using hone), by omega⟩
 refine BM ?_
 have hall := all_end hk (by rw [List.length_zipIdx]; exact Bj hb4)
 refine wk 5 ?_;refine DO ⟨[_], ⟨rfl, trivial⟩, ?_, rfl⟩
 refine bc ?_
 rw [Mf h0.1 h0.2.1 h0.2.2, hall]
theorem Ri (b : Blocks) (s : ByteArray) (fuel : Int) (m : Mach) (hfu : fuel <= 9223372036854775807) : ACall Try.prog 54 [.ptr 0 1 0 0] (Gl hNew b s fuel m) (fun r h' => r = .bool (AG fuel m).1 /\ HSub (Gl hNone b s fuel (AG fuel m).2) h') := by
 refine ACall.of_body (n := 22) Am Try.func54 rfl rfl ?_;refine wk 17 ?_;refine asp 11 (fun hb1 => ?_) fun hb1 => ?_
 .
  refine wk 13 ?_
  rw [KN hb1]
  exact ⟨[_], ⟨rfl, trivial⟩, rfl, HSub.put (HSub.put (HSub.put (HSub.none _) rfl) rfl) rfl⟩
 refine wk 8 ?_;refine aq 19 (Cc rfl rfl (show m.steps < fuel.toNat by have h := hb1; simp at h; omega) (by simp only [maxLen]; omega)) ?_
 refine wk 9 ?_
 rw [EN hb1]
 exact ⟨[_], ⟨rfl, trivial⟩, rfl, HSub.put (HSub.put (HSub.put (HSub.none _) rfl) rfl) rfl⟩
theorem WD (b : Blocks) (s : ByteArray) (fuel : Int) (call : Int -> Mach -> Mach) (t : Tac) (regs : List Int) (m : Mach) (n R : Nat) (ht : Po t n R b.words.toNat) (hr : Er regs) (hlen : regs.length = R) (hm : m.good b.words.toNat) (h0 : m.fin = 0) (hbw : b.words <= 1048576) (hs : s.size <= 9223372036854775807) (hwn : CD t.n)
    (hcall : ∀ (i : Int), 0 <= i -> i < n -> ACall Try.prog 34 [.ptr 0 1 0 0, .int .i64 i] (Gl hNew b s fuel m) (fun r h' => r = .tup [] /\ HSub (Gl hNone b s fuel (call i m)) h')) : ACall Try.prog 55 [.ptr 0 1 0 0, .agg t.cells, .ref 4 R 0 R] (hput (Gl hNew b s fuel m) 4 (.row true 1 (Ac regs))) (fun r h' => r = .tup [] /\ HSub (hput (Gl hNone b s fuel (AL call s t regs m).2) 4 (.row true 1 (Ac (AL call s t regs m).1))) h') := by
 refine ACall.of_body (n := 211) Am Try.func55 rfl rfl ?_;refine HV ?_;refine ax 4 (F9 8 5) ?_;refine wk 12 ?_;refine asp 10 (fun hb1 => ?_) fun hb1 => ?_
 .
  refine act ?_
  have ho : t.op = 1 := by simpa using hb1
  have hd := ht.d (by simp [setsOp, ho])
  refine wk 6 ?_;refine aq 17 (Ah Am rfl rfl rfl rfl rfl rfl rfl (by rw [regCells_len, hlen]) rfl hd.1 (by have := hd.2; omega)) ?_;refine AOps.w rfl rfl (o_store Am rfl rfl rfl rfl rfl rfl (by rw [regCells_len, hlen]) (Bu (by have := hd; omega)) rfl (by decide) rfl Eu) ?_;refine an ?_;refine ⟨[], trivial, rfl, ?_⟩
  rw [mone1 ho]
  exact Pz
 refine wk 6 ?_;refine asp 18 (fun hb2 => ?_) fun hb2 => ?_
 .
  refine act ?_
  have ho : t.op = 2 := by simpa using hb2
  have hd := ht.d (by simp [setsOp, ho])
  have ha := ht.a (by simp [use1, use2, ho])
  refine wk 7 ?_;refine dq 26 (Ah Am rfl rfl rfl rfl rfl rfl rfl (by rw [regCells_len, hlen]) rfl ha.1 (by have := ha.2; omega)) ?_;refine dq 27 (Ar Am rfl rfl rfl (.ptr _ _ _ _ _ _ _ _ rfl (by rw [regCells_len, hlen]) (Bu (by have := ha; omega))) rfl) ?_;refine dq 28 (Ah Am rfl rfl rfl rfl rfl rfl rfl (by rw [regCells_len, hlen]) rfl hd.1 (by have := hd.2; omega)) ?_;refine DOps.w rfl rfl (o_store Am rfl rfl rfl rfl rfl rfl (by rw [regCells_len, hlen]) (Bu (by have := hd; omega)) rfl (by decide) rfl Eu) ?_;refine wk 1 ?_;refine ⟨[], trivial, rfl, ?_⟩
  rw [mone2 ho]
  exact Pz
 refine wk 6 ?_;refine asp 29 (fun hb3 => ?_) fun hb3 => ?_
 .
  refine act ?_
  have ho : t.op = 3 := by simpa using hb3
  have hd := ht.d (by simp [setsOp, ho])
  have ha := ht.a (by simp [use1, use2, ho])
  have hb := ht.b (by simp [use2, ho])
  refine wk 7 ?_;refine dq 37 (Ah Am rfl rfl rfl rfl rfl rfl rfl (by rw [regCells_len, hlen]) rfl ha.1 (by have := ha.2; omega)) ?_;refine dq 38 (Ar Am rfl rfl rfl (.ptr _ _ _ _ _ _ _ _ rfl (by rw [regCells_len, hlen]) (Bu (by have := ha; omega))) rfl) ?_;refine wk 3 ?_;refine dq 42 (Ah Am rfl rfl rfl rfl rfl rfl rfl (by rw [regCells_len, hlen]) rfl hb.1 (by have := hb.2; omega)) ?_;refine dq 43 (Ar Am rfl rfl rfl (.ptr _ _ _ _ _ _ _ _ rfl (by rw [regCells_len, hlen]) (Bu (by have := hb; omega))) rfl) ?_;refine dx 44 (CT Try.func74 (Su t.k (rget regs t.a) (rget regs t.b) (C2 hr _) (C2 hr _))) ?_;refine wk 1 ?_;refine dq 45 (FI rfl rfl rfl) ?_;refine dq 46 (FI rfl rfl rfl) ?_;refine wk 9 ?_;refine asp 48 (fun hb4 => ?_) fun hb4 => ?_
  .
   refine wk 9 ?_;refine ⟨[], trivial, rfl, ?_⟩
   rw [UT ho hb4]
   exact TV
  refine wk 7 ?_;refine aq 56 (Ah Am rfl rfl rfl rfl rfl rfl rfl (by rw [regCells_len, hlen]) rfl hd.1 (by have := hd.2; omega)) ?_;refine AOps.w rfl rfl (o_store Am rfl rfl rfl rfl rfl rfl (by rw [regCells_len, hlen]) (Bu (by have := hd; omega)) rfl (by decide) rfl Eu) ?_;refine an ?_;refine ⟨[], trivial, rfl, ?_⟩
  rw [mone3 ho hb4]
  exact Pz
 refine wk 6 ?_;refine asp 57 (fun hb5 => ?_) fun hb5 => ?_
 .
  refine act ?_
  have ho : t.op = 4 := by simpa using hb5
  have hd := ht.d (by simp [setsOp, ho])
  have hbs := ht.base (by simp [ho])
  refine wk 10 ?_;refine dq 68 (Ah Am rfl rfl rfl rfl rfl rfl rfl (by rw [regCells_len, hm.len]) rfl hbs.1 (by have := hbs.2; omega)) ?_;refine dq 69 (Ar Am rfl rfl rfl (.ptr _ _ _ _ _ _ _ _ rfl (by rw [regCells_len, hm.len]) (Bu (by have := hbs; have := hm.len; omega))) rfl) ?_;refine dq 70 (Ah Am rfl rfl rfl rfl rfl rfl rfl (by rw [regCells_len, hlen]) rfl hd.1 (by have := hd.2; omega)) ?_;refine DOps.w rfl rfl (o_store Am rfl rfl rfl rfl rfl rfl (by rw [regCells_len, hlen]) (Bu (by have := hd; omega)) rfl (by decide) rfl Eu) ?_;refine wk 1 ?_;refine ⟨[], trivial, rfl, ?_⟩
  rw [mone4 ho]
  exact Pz
 refine wk 6 ?_;refine asp 71 (fun hb6 => ?_) fun hb6 => ?_
 .
  refine act ?_
  have ho : t.op = 5 := by simpa using hb6
  have ha := ht.a (by simp [use1, use2, ho])
  have hbs := ht.base (by simp [ho])
  refine wk 10 ?_;refine dq 82 (Ah Am rfl rfl rfl rfl rfl rfl rfl (by rw [regCells_len, hlen]) rfl ha.1 (by have := ha.2; omega)) ?_;refine dq 83 (Ar Am rfl rfl rfl (.ptr _ _ _ _ _ _ _ _ rfl (by rw [regCells_len, hlen]) (Bu (by have := ha; omega))) rfl) ?_;refine dq 84 (Ah Am rfl rfl rfl rfl rfl rfl rfl (by rw [regCells_len, hm.len]) rfl hbs.1 (by have := hbs.2; omega)) ?_;refine DOps.w rfl rfl (o_store Am rfl rfl rfl rfl rfl rfl (by rw [regCells_len, hm.len]) (Bu (by have := hbs; have := hm.len; omega)) rfl (by decide) rfl Eu) ?_;refine wk 1 ?_;refine ⟨[], trivial, rfl, ?_⟩
  rw [mone5 ho]
  exact HSub.put (HSub.put (HSub.put (HSub.put (HSub.none _) rfl) T7) rfl) rfl
 refine wk 7 ?_;refine asp 85 (fun hb7 => ?_) fun hb7 => ?_
 .
  refine wk 6 ?_
  have ho : t.op = 6 \/ t.op = 7 := by simp_all
  have har := ht.arr ho
  have ha := ht.a (by rcases ho with ho | ho <;> simp [use1, use2, ho])
  have hwa := C2 hr t.a
  have hwa1 := hwa.1
  have hwa2 := hwa.2
  refine wk 3 ?_;refine dq 91 (Ah Am rfl rfl rfl rfl rfl rfl rfl (by rw [regCells_len, hlen]) rfl ha.1 (by have := ha.2; omega)) ?_;refine dq 92 (Ar Am rfl rfl rfl (.ptr _ _ _ _ _ _ _ _ rfl (by rw [regCells_len, hlen]) (Bu (by have := ha; omega))) rfl) ?_;refine dq 93 (Bp Am rfl rfl rfl rfl rfl (r := rget regs t.a) (by rw [IntKind.wrap_u64]; omega)) ?_;refine wk 2 ?_;refine dq 96 (Bp Am rfl rfl rfl rfl rfl (r := t.size) (by rw [IntKind.wrap_u64]; omega)) ?_;refine wk 2 ?_;refine asp 97 (fun hb8 => ?_) fun hb8 => ?_
  .
   refine act ?_
   have hsz := hb8
   refine wk 8 ?_;refine ⟨[], trivial, rfl, ?_⟩
   rw [J6 ho hsz]
   exact TV
  refine BM ?_
  have hsz := hb8
  have hsz2 : rget regs t.a < t.size := by simpa using hb8
  have hidx : 0 <= t.base + rget regs t.a /\ t.base + rget regs t.a < b.words.toNat := by omega
  refine wk 7 ?_;refine asp 103 (fun hb9 => ?_) fun hb9 => ?_
  .
   refine act ?_
   have ho6 : t.op = 6 := by simpa using hb9
   exact ZN
  refine BM ?_
  have ho7 : t.op = 7 := by have h := hb9; simp at h; omega
  exact ZO
 refine wk 5 ?_;refine asp 85 (fun hb10 => ?_) fun hb10 => ?_
 .
  refine wk 4 ?_
  have ho : t.op = 6 \/ t.op = 7 := by simp_all
  have har := ht.arr ho
  have ha := ht.a (by rcases ho with ho | ho <;> simp [use1, use2, ho])
  have hwa := C2 hr t.a
  have hwa1 := hwa.1
  have hwa2 := hwa.2
  refine wk 3 ?_;refine dq 91 (Ah Am rfl rfl rfl rfl rfl rfl rfl (by rw [regCells_len, hlen]) rfl ha.1 (by have := ha.2; omega)) ?_;refine dq 92 (Ar Am rfl rfl rfl (.ptr _ _ _ _ _ _ _ _ rfl (by rw [regCells_len, hlen]) (Bu (by have := ha; omega))) rfl) ?_;refine dq 93 (Bp Am rfl rfl rfl rfl rfl (r := rget regs t.a) (by rw [IntKind.wrap_u64]; omega)) ?_;refine wk 2 ?_;refine dq 96 (Bp Am rfl rfl rfl rfl rfl (r := t.size) (by rw [IntKind.wrap_u64]; omega)) ?_;refine wk 2 ?_;refine asp 97 (fun hb11 => ?_) fun hb11 => ?_
  .
   refine act ?_
   have hsz := hb11
   refine wk 8 ?_;refine ⟨[], trivial, rfl, ?_⟩
   rw [J6 ho hsz]
   exact TV
  refine BM ?_
  have hsz := hb11
  have hsz2 : rget regs t.a < t.size := by simpa using hb11
  have hidx : 0 <= t.base + rget regs t.a /\ t.base + rget regs t.a < b.words.toNat := by omega
  refine wk 7 ?_;refine asp 103 (fun hb12 => ?_) fun hb12 => ?_
  .
   refine act ?_
   have ho6 : t.op = 6 := by simpa using hb12
   exact ZN
  refine BM ?_
  have ho7 : t.op = 7 := by have h := hb12; simp at h; omega
  exact ZO
 refine wk 6 ?_;refine asp 142 (fun hb13 => ?_) fun hb13 => ?_
 .
  refine act ?_
  have ho : t.op = 8 := by simpa using hb13
  have hd := ht.d (by simp [setsOp, ho])
  refine wk 5 ?_;refine aq 147 (Ah Am rfl rfl rfl rfl rfl rfl rfl (by rw [regCells_len, hlen]) rfl hd.1 (by have := hd.2; omega)) ?_;refine AOps.w rfl rfl (o_store Am rfl rfl rfl rfl rfl rfl (by rw [regCells_len, hlen]) (Bu (by have := hd; omega)) rfl (by decide) rfl Eu) ?_;refine wk 14 ?_;refine asp 157 (fun hb14 => ?_) fun hb14 => ?_
  .
   refine act ?_
   have hrd : m.read < s.size := by have h := hb14; simp at h; omega
   refine wk 13 ?_;refine dq 169 (GI (c := inAt s m.read) Am rfl rfl rfl rfl rfl (Int.natCast_nonneg _) (K7 hrd)) ?_;refine dq 170 (Bp Am rfl rfl rfl rfl rfl (r := ((inAt s m.read).toNat : Int)) (by rw [IntKind.wrap_u32]; have := (Lz (inAt s m.read)).2; omega)) ?_;refine dq 171 (Ah Am rfl rfl rfl rfl rfl rfl rfl (by rw [List.length_set, regCells_len, hlen]) rfl hd.1 (by have := hd.2; omega)) ?_;refine DOps.w rfl rfl (o_store Am rfl rfl rfl rfl rfl rfl (by rw [List.length_set, regCells_len, hlen]) (B6 (Bu (by have := hd; omega))) rfl (by decide) rfl Eu) ?_;refine wk 6 ?_;refine aq 176 (Cc rfl rfl hrd (by simp only [maxLen]; omega)) ?_;refine wk 4 ?_;refine ⟨[], trivial, rfl, ?_⟩
   rw [XO ho hrd]
   exact Pz
  refine BM ?_
  have hrd : ¬ m.read < s.size := by have h := hb14; simp at h; omega
  refine V4 ?_;refine ⟨[], trivial, rfl, ?_⟩
  rw [US ho hrd]
  exact Pz
 refine wk 6 ?_;refine asp 179 (fun hb15 => ?_) fun hb15 => ?_
 .
  refine act ?_
  have ho : t.op = 9 := by simpa using hb15
  have ha := ht.a (by simp [use1, use2, ho])
  have hwa := C2 hr t.a
  have hwa1 := hwa.1
  have hwa2 := hwa.2
  refine wk 10 ?_;refine asp 186 (fun hb16 => ?_) fun hb16 => ?_
  .
   refine act ?_
   have hou : m.out.length >= 65536 := by have h := hb16; simp [As] at h; omega
   refine wk 8 ?_;refine ⟨[], trivial, rfl, ?_⟩
   rw [UR ho hou]
   exact TV
  refine BM ?_
  have hou : ¬ m.out.length >= 65536 := by have h := hb16; simp [As] at h; omega
  refine wk 10 ?_;refine dq 198 (Ah Am rfl rfl rfl rfl rfl rfl rfl (by rw [regCells_len, hlen]) rfl ha.1 (by have := ha.2; omega)) ?_;refine dq 199 (Ar Am rfl rfl rfl (.ptr _ _ _ _ _ _ _ _ rfl (by rw [regCells_len, hlen]) (Bu (by have := ha; omega))) rfl) ?_;refine dq 200 (Bp Am rfl rfl rfl rfl rfl (IS hwa)) ?_;refine dx 201 (D4 Am rfl rfl rfl rfl rfl rfl (by decide) rfl rfl rfl rfl rfl rfl) ?_;refine dx 202 (E2 Am (n := m.out.length) (m := 1) rfl rfl rfl rfl rfl rfl rfl rfl rfl (by simp [As]) rfl rfl (Nat.zero_lt_succ _) (.lst _ _) (by intro cs h; simp [partVals] at h; subst h; rfl) (fun _ cs h => by simp [partVals] at h; subst h; rfl) rfl (by simp [As, partVals]; have := hm.out; omega) (by simp [As, partVals]; simp only [maxLen]; have := hm.out; omega)) ?_
  refine wk 4 ?_;refine ⟨[], trivial, rfl, ?_⟩
  rw [mone9 ho hou]
  exact HSub.put (HSub.put (HSub.put (HSub.put (HSub.none _) (by first | rfl | exact congrArg (fun n => some (AObj.row false 9 [[.int .i64 b.words, A6 b.funcs, .str s, .int .i64 fuel, .ref 1 b.words.toNat 0 b.words.toNat, .ref 2 n 0 n, .int .i64 (m.read : Int), .int .i64 (m.steps : Int), .int .i64 m.fin]])) (by simp))) rfl) (by first | rfl | exact congrArg (fun es => some (AObj.row true 1 es)) (by simp [As, partVals]; rfl))) rfl
 refine wk 6 ?_;refine asp 205 (fun hb17 => ?_) fun hb17 => ?_
 .
  refine act ?_
  have ho : t.op = 10 := by simpa using hb17
  have hcl := ht.call ho
  refine wk 4 ?_;refine ax 210 (Yz (hcall t.base hcl.1 hcl.2) [2, 1, 0] [(0, (.row false 9 [Do b s fuel (call t.base m)])), (1, (.row true 1 (Ac ((call t.base m)).words))), (2, (.row true 1 (As ((call t.base m)).out)))] rfl Try.func34 (by kernel_rfl) rfl rfl rfl ⟨⟨_, rfl, rfl⟩, ⟨_, rfl, rfl⟩, ⟨_, rfl, rfl⟩, trivial⟩ rfl (AX rfl (AX rfl (AX rfl (Dt _)))) ⟨⟨_, rfl, rfl, rfl⟩, ⟨_, rfl, rfl, rfl⟩, ⟨_, rfl, rfl, rfl⟩, trivial⟩ rfl) ?_;refine an ?_;refine ⟨[], trivial, rfl, ?_⟩
  rw [I9 ho]
  exact TV
 refine wk 2 ?_;exact absurd ht.op (by simp_all; omega)
theorem Vb (b : Blocks) (s : ByteArray) (fuel : Int) (call : Int -> Mach -> Mach) (i : Int) (f : BFunc) (m : Mach) (hfu : fuel <= 9223372036854775807) (hs : s.size <= 9223372036854775807) (hbw : b.words <= 1048576) (hf : b.funcs[i.toNat]? = some f) (hi : 0 <= i) (hone : f.one i b.words = true)
    (hfw : ∀ x ∈ f.blocks, U6 x.ins) (hfl : ∀ x ∈ f.blocks, x.ins.length <= maxLen)
    (hcall : ∀ (j : Int) (m : Mach), 0 <= j -> j < i -> m.fin = 0 -> m.good b.words.toNat -> ACall Try.prog 34 [.ptr 0 1 0 0, .int .i64 j] (Gl hNew b s fuel m) (fun r h' => r = .tup [] /\ HSub (Gl hNone b s fuel (call j m)) h'))
    (hcg : ∀ i m, m.good b.words.toNat -> (call i m).good b.words.toNat) (hcs : ∀ i m, m.steps <= (call i m).steps) (hm : m.good b.words.toNat) (h0 : m.fin = 0) : ACall Try.prog 34 [.ptr 0 1 0 0, .int .i64 i] (Gl hNew b s fuel m) (fun r h' => r = .tup [] /\ HSub (Gl hNone b s fuel (Dd call s fuel f (fuel.toNat + 1) 0 (List.replicate f.regs.toNat 0) m)) h') := by
 have hsp := Ek hone
 refine ACall.of_body (n := 76) Am Try.func34 rfl rfl ?_;refine wk 8 ?_;refine aq 15 (Ae Am rfl rfl rfl rfl rfl rfl hi (Ds hf) rfl) ?_;refine wk 1 ?_;refine ax 4 (KJ Am 3) ?_;refine wk 6 ?_;refine ax 19 (DG Am (n := f.regs.toNat) (m := f.regs.toNat) 4 true rfl rfl rfl (by have := hsp.1; omega) (by have := hsp.1; omega) rfl rfl rfl rfl rfl (Nat.zero_lt_succ _) rfl (Nat.le_refl _) (by show 4 * f.regs.toNat <= _; have := hsp.2.1; omega) (by simp only [maxLen]; have := hsp.2.1; omega)) ?_;refine wk 7 ?_;refine Bo (γ := FG) 5 (fun q => ⟨76, (Ad (Ad (Ad (Ad Bt 0 (.ptr 0 1 0 0)) 4 (.ptr 3 1 0 0)) 5 (.ref 4 f.regs.toNat 0 f.regs.toNat)) 6 (.int .i64 q.i)), (hput (hput (hput (hput (hput (Bl 5) 0 (.row false 9 [Do b s fuel q.m])) 1 (.row true 1 (Ac (q.m).words))) 2 (.row true 1 (As (q.m).out))) 3 (.row false 2 [f.cells])) 4 (.row true 1 (Ac q.regs)))⟩) (fun q => FInv call s fuel f b.words.toNat f.regs.toNat (Dd call s fuel f (fuel.toNat + 1) 0 (List.replicate f.regs.toNat 0) m) q) (fun q => q.g) ⟨0, List.replicate f.regs.toNat 0, m, fuel.toNat + 1⟩ (Sub.mk' BH cI) (FInv.first hm h0 hsp.2.2.1) (fun _ => AQ (AQ (AQ (AQ (AQ (fun b hb => Bb hb) rfl) rfl) rfl) rfl) rfl) ?_
 intro q hF
 refine wk 9 ?_;refine asp 24 (fun hb1 => ?_) fun hb1 => ?_
 .
  refine act ?_
  obtain ⟨k, hk⟩ := At (l := f.blocks) (k := q.i.toNat) (by have := hF.i; omega)
  have hkm := List.mem_of_getElem? hk
  have hks := hsp.2.2.2 k hkm
  refine wk 7 ?_;refine aq 28 (Ae Am rfl rfl rfl rfl rfl rfl hF.i.1 (Ds hk) rfl) ?_;refine wk 1 ?_;refine ax 7 (KJ Am 5) ?_;refine wk 8 ?_;refine Bo (γ := IG) 6 (fun r => ⟨76, (Ad (Ad (Ad (Ad (Ad (Ad Bt 0 (.ptr 0 1 0 0)) 4 (.ptr 3 1 0 0)) 5 (.ref 4 f.regs.toNat 0 f.regs.toNat)) 6 (.int .i64 q.i)) 7 (.ptr 5 1 0 0)) 8 (.int .i64 (r.j : Int))), (hput (hput (hput (hput (hput (hput (Bl 6) 0 (.row false 9 [Do b s fuel r.m])) 1 (.row true 1 (Ac (r.m).words))) 2 (.row true 1 (As (r.m).out))) 3 (.row false 2 [f.cells])) 4 (.row true 1 (Ac r.regs))) 5 (.row false 5 [k.cells]))⟩) (fun r => IInv call s fuel k q b.words.toNat f.regs.toNat r) (fun r => k.ins.length - r.j) ⟨0, q.regs, q.m⟩ (Sub.mk' BH FV) hF.start (fun _ => AQ (AQ (AQ (AQ (AQ (AQ (fun b hb => Bb hb) rfl) rfl) rfl) rfl) rfl) rfl) ?_
  intro r hI
  refine wk 9 ?_;refine asp 34 (fun hb2 => ?_) fun hb2 => ?_
  .
   refine act ?_
   have hjl : r.j < k.ins.length := Bi hb2
   obtain ⟨u, hu⟩ := At hjl
   have hum := List.mem_of_getElem? hu
   have hut := Kk (hks.2 u hum)
   have huw := hfw k hkm u hum
   refine wk 7 ?_;refine ax 38 (Yz (Ri b s fuel r.m hfu) [2, 1, 0] [(0, (.row false 9 [Do b s fuel (AG fuel r.m).2])), (1, (.row true 1 (Ac ((AG fuel r.m).2).words))), (2, (.row true 1 (As ((AG fuel r.m).2).out)))] rfl Try.func54 (by kernel_rfl) rfl rfl rfl ⟨⟨_, rfl, rfl⟩, ⟨_, rfl, rfl⟩, ⟨_, rfl, rfl⟩, trivial⟩ rfl (AX rfl (AX rfl (AX rfl (Dt _)))) ⟨⟨_, rfl, rfl, rfl⟩, ⟨_, rfl, rfl, rfl⟩, ⟨_, rfl, rfl, rfl⟩, trivial⟩ rfl) ?_;refine wk 2 ?_;refine asp 39 (fun hb3 => ?_) fun hb3 => ?_
   .
    refine act ?_
    have hst : (AG fuel r.m).1 = false := by simpa using hb3
    refine DO ?_;refine ⟨[], trivial, rfl, ?_⟩
    rw [show (Dd call s fuel f (fuel.toNat + 1) 0 (List.replicate f.regs.toNat 0) m) = _ from bS hF hk hI hu hst]
    exact HSub.put (HSub.put (HSub.put (HSub.none _) rfl) rfl) rfl
   refine BM ?_
   have hst : (AG fuel r.m).1 = true := by simpa using hb3
   have hsf : (AG fuel r.m).2.fin = 0 := by rw [(DC hst).2]; exact hI.fin
   refine wk 7 ?_;refine aq 44 (Ae Am rfl rfl rfl rfl rfl rfl (Int.natCast_nonneg _) (Cg (by assumption)) rfl) ?_;refine wk 2 ?_;refine ax 47 (Yz (WD b s fuel call u r.regs (AG fuel r.m).2 i.toNat f.regs.toNat hut hI.regs hI.len (DD hI.good) hsf hbw hs huw (fun j h1 h2 => hcall j _ h1 (by omega) hsf (DD hI.good))) [4, 2, 1, 0] [(0, (.row false 9 [Do b s fuel (AL call s u r.regs (AG fuel r.m).2).2])), (1, (.row true 1 (Ac ((AL call s u r.regs (AG fuel r.m).2).2).words))), (2, (.row true 1 (As ((AL call s u r.regs (AG fuel r.m).2).2).out))), (4, (.row true 1 (Ac (AL call s u r.regs (AG fuel r.m).2).1)))] rfl Try.func55 (by kernel_rfl) rfl rfl rfl ⟨⟨_, rfl, rfl⟩, ⟨_, rfl, rfl⟩, ⟨_, rfl, rfl⟩, ⟨_, rfl, rfl⟩, trivial⟩ rfl (AX rfl (AX rfl (AX rfl (AX rfl (Dt _))))) ⟨⟨_, rfl, rfl, rfl⟩, ⟨_, rfl, rfl, rfl⟩, ⟨_, rfl, rfl, rfl⟩, ⟨_, rfl, rfl, rfl⟩, trivial⟩ rfl) ?_
   refine wk 9 ?_;refine asp 52 (fun hb4 => ?_) fun hb4 => ?_
   .
    refine act ?_
    have hnz := hb4
    refine DO ?_;refine ⟨[], trivial, rfl, ?_⟩
    rw [show (Dd call s fuel f (fuel.toNat + 1) 0 (List.replicate f.regs.toNat 0) m) = _ from bR hF hk hI hu hst hnz]
    exact HSub.put (HSub.put (HSub.put (HSub.none _) rfl) rfl) rfl
   refine BM ?_
   have hnz := hb4
   refine wk 3 ?_;refine aq 36 (Cc rfl rfl hjl (hfl k hkm)) ?_;refine wk 2 ?_;exact ⟨⟨r.j + 1, (AL call s u r.regs (AG fuel r.m).2).1, (AL call s u r.regs (AG fuel r.m).2).2⟩, Drop.mk' JY Hn, (hI.next hcg hcs hu huw hst hnz), (by show k.ins.length - (r.j + 1) < k.ins.length - r.j; omega)⟩
  refine BM ?_
  have hge := Bj hb2
  refine wk 5 ?_;refine ax 54 (Yz (Ri b s fuel r.m hfu) [2, 1, 0] [(0, (.row false 9 [Do b s fuel (AG fuel r.m).2])), (1, (.row true 1 (Ac ((AG fuel r.m).2).words))), (2, (.row true 1 (As ((AG fuel r.m).2).out)))] rfl Try.func54 (by kernel_rfl) rfl rfl rfl ⟨⟨_, rfl, rfl⟩, ⟨_, rfl, rfl⟩, ⟨_, rfl, rfl⟩, trivial⟩ rfl (AX rfl (AX rfl (AX rfl (Dt _)))) ⟨⟨_, rfl, rfl, rfl⟩, ⟨_, rfl, rfl, rfl⟩, ⟨_, rfl, rfl, rfl⟩, trivial⟩ rfl) ?_;refine wk 2 ?_;refine A7 56 (fun hb5 => ?_) fun hb5 => ?_
  .
   refine wk 7 ?_;exact Zq
  have hst : (AG fuel r.m).1 = true := by simpa using hb5
  refine wk 5 ?_;refine asp 60 (fun hb6 => ?_) fun hb6 => ?_
  .
   refine wk 2 ?_;exact Zq
  refine wk 14 ?_;refine A7 66 (fun hb7 => ?_) fun hb7 => ?_
  .
   have hv := ends_v hks.1 hb7
   refine wk 3 ?_;refine aq 70 (Ah Am rfl rfl rfl rfl rfl rfl rfl (by rw [regCells_len, hI.len]) rfl hv.1 (by have := hv.2; omega)) ?_;refine aq 71 (Ar Am rfl rfl rfl (.ptr _ _ _ _ _ _ _ _ rfl (by rw [regCells_len, hI.len]) (Bu (by have := hv; have := hI.len; omega))) rfl) ?_;refine wk 3 ?_;refine asp 73 (fun hb8 => ?_) fun hb8 => ?_
   .
    refine wk 6 ?_;exact Ye
   refine wk 2 ?_;exact Ye
  refine wk 10 ?_;exact Ye
 refine BM ?_
 have hbad := hb1
 refine wk 1 ?_;exact absurd hF.fin (by simpa using hbad)
theorem Vc (b : Blocks) (s : ByteArray) (fuel : Int) (hfu : fuel <= 9223372036854775807) (hs : s.size <= 9223372036854775807) (hb : b.right = true) (hbw : b.insW) (hbl : ∀ f ∈ b.funcs, ∀ x ∈ f.blocks, x.ins.length <= maxLen) :
    ∀ (n : Nat) (i : Int) (m : Mach), 0 <= i -> i < n -> i < b.funcs.length -> m.fin = 0 -> m.good b.words.toNat -> ACall Try.prog 34 [.ptr 0 1 0 0, .int .i64 i] (Gl hNew b s fuel m) (fun r h' => r = .tup [] /\ HSub (Gl hNone b s fuel (mfun b s fuel n i m)) h')
  | 0, i, m, h1, h2, _, _, _ => absurd h2 (by omega)
  | n + 1, i, m, h1, h2, h3, h4, h5 => by
    obtain ⟨f, hf⟩ := At (l := b.funcs) (k := i.toNat) (by omega)
    have hr := DA hb
    have hfm := List.mem_of_getElem? hf
    have hone : f.one i b.words = true := by
      have := hr.2.2.2 i.toNat f hf
      rwa [Int.toNat_of_nonneg h1] at this
    have key := Vb b s fuel (mfun b s fuel n) i f m hfu hs hr.2.1 hf h1 hone (hbw f hfm) (hbl f hfm)
      (fun j m' j1 j2 j3 j4 => Vc b s fuel hfu hs hb hbw hbl n j m' j1 (by omega) (by omega) j3 j4) (fun j m' hg => Ms hbw n j m' hg) (fun j m' => D6 n j m') h5 h4
    have e : mfun b s fuel (n + 1) i m = Dd (mfun b s fuel n) s fuel f (fuel.toNat + 1) 0 (List.replicate f.regs.toNat 0) m := by
      rw [mfun, hf]
    rw [e]; exact key
theorem Ym (b : Blocks) (s : ByteArray) (fuel : Int) (hfu : fuel <= 9223372036854775807) (hs : s.size <= 9223372036854775807) (hb : b.right = true) (hbw : b.insW) (hbl : ∀ f ∈ b.funcs, ∀ x ∈ f.blocks, x.ins.length <= maxLen) : APure Try.prog 18 [.agg b.cells, .str s, .int .i64 fuel] (fun r => r = .agg (FH (Fu b s fuel))) := by
 have hr := DA hb
 have hne : 0 < b.funcs.length := List.length_pos_iff.2 hr.2.2.1
 refine APure.of_body (n := 51) Am Try.func18 rfl rfl ?_;refine asq ?_;refine AGo.slot 0 rfl (fun H ι v => Of) (fun hfit => ?_)
 refine agr ?_;refine ax 3 (F9 2 3) ?_;refine ax 6 (KJ Am 4) ?_;refine wk 9 ?_;refine asp 11 (fun hb1 => ?_) fun hb1 => ?_
 .
  refine wk 7 ?_;exact absurd hne (by have h := hb1; simp [A6] at h; simp [h])
 refine wk 3 ?_;refine AGo.join (γ := Unit) (fun _u => ⟨51, (Ad (Ad (Ad (Ad (Ad Bt 0 (.agg b.cells)) 1 (.str s)) 3 (.ptr 3 1 0 0)) 6 (.ptr 4 1 0 0)) 2 (.int .i64 (Cq fuel))), (hput (hput (hput (hput (hput (Bl 5) 3 (.row false 2 [b.cells])) 4 (.row false 3 [[.int .i64 0, .str .empty, .int .i64 0]])) 0 .free) 1 .free) 2 .free)⟩) (fun _u => True) ?_ ?_
 .
  refine wk 5 ?_;refine asp 14 (fun hb2 => ?_) fun hb2 => ?_
  .
   refine wk 4 ?_;exact Zx
  refine wk 2 ?_;exact Zx
 intro _u _
 refine asq ?_
 have hfu0 : Cq fuel <= 9223372036854775807 := by unfold Cq; cases decide (fuel < 0) <;> simp <;> omega
 have m0_good : (m0 b).good b.words.toNat := ⟨by simp [m0], Ep _, by simp [m0]⟩
 refine wk 6 ?_;refine dx 20 (DG Am (n := b.words.toNat) (m := b.words.toNat) 1 true rfl rfl rfl (by have := hr.1; omega) (by have := hr.1; omega) rfl rfl rfl rfl rfl (Nat.zero_lt_succ _) rfl (Nat.le_refl _) (by show 4 * b.words.toNat <= _; have := hr.2.1; omega) (by simp only [maxLen]; have := hr.2.1; omega)) ?_;refine wk 1 ?_;refine dx 22 (F9 9 0) ?_;refine wk 3 ?_;refine AGo.ghost (.dryCell 0 0 5 2 1 true rfl rfl rfl rfl rfl (by decide)) ?_;refine AGo.sub (s' := ⟨51, (Ad (Ad (Ad (Ad (Ad Bt 0 (.agg b.cells)) 1 (.str s)) 3 (.ptr 3 1 0 0)) 6 (.ptr 4 1 0 0)) 7 (.ptr 0 1 0 0)), (hput (hput (hput (hput (hput hNone 0 (.row false 9 [Do b s (Cq fuel) (m0 b)])) 1 (.row true 1 (Ac ((m0 b)).words))) 2 (.row true 1 (As ((m0 b)).out))) 3 (.row false 2 [b.cells])) 4 (.row false 3 [[.int .i64 0, .str .empty, .int .i64 0]]))⟩) (Sub.mk' BH cI) ?_;refine agr ?_
 have hmx := hfit.1
 refine wk 4 ?_;refine aq 27 (AI (r := .int .i64 ((b.funcs.length : Int) - 1)) rfl rfl rfl (by simp only [A3, BA, isShift, cond_false, if_true]; rw [List.length_map, Bz (by omega) (by simp only [maxLen] at hmx; omega)])) ?_;refine ax 28 (Yz (Vc b s (Cq fuel) hfu0 hs hb hbw hbl b.funcs.length ((b.funcs.length : Int) - 1) (m0 b) (by omega) (by omega) (by omega) rfl m0_good) [2, 1, 0] [(0, (.row false 9 [Do b s (Cq fuel) (mfun b s (Cq fuel) b.funcs.length ((b.funcs.length : Int) - 1) (m0 b))])), (1, (.row true 1 (Ac ((mfun b s (Cq fuel) b.funcs.length ((b.funcs.length : Int) - 1) (m0 b))).words))), (2, (.row true 1 (As ((mfun b s (Cq fuel) b.funcs.length ((b.funcs.length : Int) - 1) (m0 b))).out)))] rfl Try.func34 (by kernel_rfl) rfl rfl rfl ⟨⟨_, rfl, rfl⟩, ⟨_, rfl, rfl⟩, ⟨_, rfl, rfl⟩, trivial⟩ rfl (AX rfl (AX rfl (AX rfl (Dt _)))) ⟨⟨_, rfl, rfl, rfl⟩, ⟨_, rfl, rfl, rfl⟩, ⟨_, rfl, rfl, rfl⟩, trivial⟩ rfl) ?_
 refine wk 2 ?_;refine AGo.join (γ := Mach) (fun m => ⟨51, (Ad (Ad (Ad (Ad (Ad Bt 0 (.agg b.cells)) 1 (.str s)) 3 (.ptr 3 1 0 0)) 6 (.ptr 4 1 0 0)) 7 (.ptr 0 1 0 0)), (hput (hput (hput (hput (hput hNone 0 (.row false 9 [Do b s (Cq fuel) m])) 1 (.row true 1 (Ac (m).words))) 2 (.row true 1 (As (m).out))) 3 (.row false 2 [b.cells])) 4 (.row false 3 [[.int .i64 0, .str .empty, .int .i64 0]]))⟩) (fun m => m = Fu b s fuel) ?_ ?_
 .
  refine wk 8 ?_;refine asp 33 (fun hb3 => ?_) fun hb3 => ?_
  .
   refine wk 7 ?_;exact ⟨{ (mfun b s (Cq fuel) b.funcs.length ((b.funcs.length : Int) - 1) (m0 b)) with fin := 1 }, Sub.mk' BH FV, (by simp [Fu, *])⟩
  refine wk 2 ?_;exact ⟨(mfun b s (Cq fuel) b.funcs.length ((b.funcs.length : Int) - 1) (m0 b)), Sub.mk' BH FV, (by simp [Fu, *])⟩
 intro m hm
 refine asq ?_;refine AGo.ghost (.freezeCell 0 0 5 2 rfl rfl rfl rfl (by simp [As]) (by decide)) ?_;refine wk 9 ?_;refine dq 45 (F6 (l := m.out) Am rfl Wi rfl rfl rfl rfl rfl rfl) ?_;refine wk 8 ?_;refine ⟨[_], ⟨⟨_, _, _, _, rfl, rfl, .ptr _ _ _ _ _ _ _ _ rfl rfl rfl, rfl⟩, trivial⟩, ?_, rfl⟩
 subst hm
 rfl
theorem UM (n : Int) : APure Try.prog 21 [.int .u32 n] (fun r => r = .agg (Tc n).cells) := by
 refine APure.of_body (n := 5) Am Try.func21 rfl rfl ?_;refine HV ?_;refine ax 2 (KJ Am 0) ?_;refine wk 4 ?_;refine aq 4 (LJ (y := .agg (Tc n).cells) (Fg Am rfl rfl rfl rfl rfl (by decide) rfl rfl rfl) (fun _ _ _ h => RR h rfl)) ?_;refine wk 3 ?_;exact XW
theorem UC (e : CE) : APure Try.prog 22 [.agg e.cells] (fun r => r = .agg (Un e).cells) := by
 obtain ⟨k_, o_, n_, s_, z_, l_⟩ := e
 refine APure.of_body (n := 6) Am Try.func22 rfl rfl ?_;refine HV ?_;refine ax 1 (F9 6 0) ?_;refine ax 2 (KJ Am 1) ?_;refine wk 4 ?_;refine ax 4 (D4 Am rfl rfl rfl rfl rfl rfl (by decide) rfl rfl rfl rfl rfl rfl) ?_;refine aq 5 (LJ (y := .agg (Un (.mk k_ o_ n_ s_ z_ l_)).cells) (Fg Am rfl rfl rfl rfl rfl (by decide) rfl rfl rfl) (fun _ _ _ h => RR h rfl)) ?_;refine wk 3 ?_;exact XW
theorem QY  : APure Try.prog 12 [] (fun r => r = .bool true) := by
 refine APure.of_body (n := 21) Am Try.func12 rfl rfl ?_;refine wk 6 ?_;refine ax 3 (CT Try.func21 (UM 65)) ?_;refine ax 4 (CT Try.func22 (UC (Tc 65))) ?_;refine ax 5 (D4 Am rfl rfl rfl rfl rfl rfl (by decide) rfl rfl rfl rfl rfl rfl) ?_;refine wk 1 ?_;refine ax 7 (D4 Am rfl rfl rfl rfl rfl rfl (by decide) rfl rfl rfl rfl rfl rfl) ?_;refine wk 1 ?_;refine ax 1 (KJ Am 0) ?_;refine wk 5 ?_;refine ax 10 (CT Try.func14 (LA aliveC alive_bld.ok alive_bld.r alive_bld.okL alive_bld.partsL)) ?_;refine ax 2 (KJ Am 1) ?_;refine wk 5 ?_;refine dx 12 (CT Try.func15 ((Uv aliveC.build).mono (fun r h => by rw [h, alive_bld.right]))) ?_
 refine wk 3 ?_;refine dx 16 (CT Try.func19 (MB aliveC 0 alive_bld.ok (by have := alive_bld.parts; omega) alive_bld.r.w0 (by have := alive_bld.r.w1; omega) (by first | decide | omega) (by first | decide | omega))) ?_;refine dx 17 (CT Try.func18 (Ym aliveC.build ⟨#[]⟩ _ (WW (n := 0) (by decide) alive_bld.kle) (by first | decide | omega) alive_bld.right alive_bld.w alive_bld.ins2)) ?_;refine wk 1 ?_;refine dx 19 (CT Try.func17 ((S9 _ ⟨[], [65], 0, 0, 1⟩).mono (fun r h => h.trans (congrArg AV.bool (ends_true (LH _).1 (LH _).2))))) ?_;refine dq 20 (GH true rfl rfl rfl rfl) ?_;refine wk 2 ?_;exact Pv
section
variable {call call' : Int -> Mach -> Mach} {s : ByteArray} {fuel : Int}
def NB (call call' : Int -> Mach -> Mach) (ok : Int -> Prop) : Prop := ∀ i m, ok i -> call i m = call' i m
theorem HN {ok : Int -> Prop} (hc : NB call call' ok) (t : Tac) (ht : t.op = 10 -> ok t.base) (regs : List Int) (m : Mach) : AL call s t regs m = AL call' s t regs m := by
  by_cases h : t.op = 10
  . rw [I9 h, I9 h, hc _ _ (ht h)]
  . unfold AL
    have : (t.op == 10) = false := by rw [beq_eq_false_iff_ne]; exact h
    simp only [this, cond_false]
theorem KS {ok : Int -> Prop} (hc : NB call call' ok) : ∀ (l : List Tac), (∀ t ∈ l, t.op = 10 -> ok t.base) -> ∀ (regs : List Int) (m : Mach), B2 call s fuel l regs m = B2 call' s fuel l regs m
  | [], _, _, _ => rfl
  | t :: r, hl, regs, m => by
    unfold B2
    rw [HN hc t (hl t (by simp))]
    cases (AG fuel m).1 with
    | false => rfl
    | true =>
      simp only [cond_true]
      rw [KS hc r (fun t ht => hl t (by simp [ht]))]
theorem KW {ok : Int -> Prop} (hc : NB call call' ok) {f : BFunc} (hf : ∀ x ∈ f.blocks, ∀ t ∈ x.ins, t.op = 10 -> ok t.base) : ∀ (g : Nat) (i : Int) (regs : List Int) (m : Mach), Dd call s fuel f g i regs m = Dd call' s fuel f g i regs m
  | 0, _, _, _ => rfl
  | g + 1, i, regs, m => by
    unfold Dd
    cases e : f.blocks[i.toNat]? with
    | none => rfl
    | some k =>
      simp only
      rw [KS hc k.ins (hf k (List.mem_of_getElem? e))]
      cases (B2 call' s fuel k.ins regs m).1 with
      | false => rfl
      | true =>
        simp only [cond_true]
        cases (AG fuel (B2 call' s fuel k.ins regs m).2.2).1 && !(k.fin == 3) with
        | false => rfl
        | true => simp only [cond_true]; exact KW hc hf g _ _ _
theorem mblk_gas50 (hcs : ∀ i m, m.steps <= (call i m).steps) {f : BFunc} : ∀ (g g' : Nat) (i : Int) (regs : List Int) (m : Mach), E7 fuel g m -> E7 fuel g' m -> 0 < g -> 0 < g' -> Dd call s fuel f g i regs m = Dd call s fuel f g' i regs m
  | 0, _, _, _, _, _, _, h, _ => absurd h (by omega)
  | _ + 1, 0, _, _, _, _, _, _, h => absurd h (by omega)
  | g + 1, g' + 1, i, regs, m, h, h', _, _ => by
    unfold Dd
    cases e : f.blocks[i.toNat]? with
    | none => rfl
    | some k =>
      simp only
      have hs := D5 (call := call) (s := s) (fuel := fuel) hcs k.ins regs m
      generalize B2 call s fuel k.ins regs m = p at hs |-
      cases p.1 with
      | false => rfl
      | true =>
        simp only [cond_true]
        cases e2 : (AG fuel p.2.2).1 with
        | false => rfl
        | true =>
          obtain ⟨a1, a2⟩ := DC e2
          rw [a2]
          cases !(k.fin == 3) with
          | false => rfl
          | true =>
            simp only [Bool.true_and, cond_true]
            unfold E7 at h h'
            refine mblk_gas50 hcs g g' _ _ _ ?_ ?_ ?_ ?_
            . show fuel.toNat < p.2.2.steps + 1 + g; omega
            . show fuel.toNat < p.2.2.steps + 1 + g'; omega
            . omega
            . omega
end
theorem GG {b : Blocks} (hb : b.right = true) {i : Nat} {f : BFunc} (hf : b.funcs[i]? = some f) : ∀ x ∈ f.blocks, ∀ t ∈ x.ins, t.op = 10 -> 0 <= t.base /\ t.base < (i : Int) := fun x hx t ht h10 => by
  have h1 := (DA hb).2.2.2 i f hf
  have h2 := (Ek h1).2.2.2 x hx
  have h3 := h2.2 t ht
  have := (Kk h3).call h10
  simpa using this
theorem KT {b : Blocks} (hb : b.right = true) {s : ByteArray} {fuel : Int} : ∀ (n n' : Nat) (i : Int) (m : Mach), 0 <= i -> i < n -> i < n' -> i < b.funcs.length -> mfun b s fuel n i m = mfun b s fuel n' i m
  | 0, _, i, _, h0, h, _, _ => absurd h (by omega)
  | _ + 1, 0, i, _, h0, _, h, _ => absurd h (by omega)
  | n + 1, n' + 1, i, m, h0, h, h', hl => by
    obtain ⟨f, hf⟩ := At (l := b.funcs) (k := i.toNat) (by omega)
    unfold mfun
    rw [hf]
    simp only
    refine KW (ok := fun j => 0 <= j /\ j < i) (fun j m hj => KT hb n n' j m hj.1 (by omega) (by omega) (by omega)) (fun x hx t ht h10 => ?_) _ _ _ _
    have := GG hb hf x hx t ht h10
    omega
structure FW where
  f : Nat
  blk : Int
  at' : Nat
structure Q24 where
  now : FW
  above : List FW
  R : List (Option (List Int))
  m : Mach
def V2 (R : List (Option (List Int))) (f : Nat) : List Int := ((R[f]?).getD none).getD []
section
variable {b : Blocks} {s : ByteArray} {fuel : Int}
def FD (b : Blocks) (s : ByteArray) (fuel : Int) (f : Nat) (F : BFunc) (k : Block) (at' : Nat) (regs : List Int) (m : Mach) : Mach :=
  let p := B2 (mfun b s fuel f) s fuel (k.ins.drop at') regs m
  bif p.1 then (bif (AG fuel p.2.2).1 && !(k.fin == 3) then Dd (mfun b s fuel f) s fuel F (fuel.toNat + 1) (k.next p.2.1) p.2.1 (AG fuel p.2.2).2 else (AG fuel p.2.2).2) else p.2.2
def I3 (b : Blocks) (s : ByteArray) (fuel : Int) (fr : FW) (regs : List Int) (m : Mach) : Mach :=
  match b.funcs[fr.f]? with
  | none => m
  | some F => match F.blocks[fr.blk.toNat]? with
    | none => m
    | some k => FD b s fuel fr.f F k fr.at' regs m
def Fs (b : Blocks) (s : ByteArray) (fuel : Int) (R : List (Option (List Int))) : List FW -> Mach -> Mach
  | [], m => m
  | fr :: r, m => if m.fin = 0 then Fs b s fuel R r (I3 b s fuel fr (V2 R fr.f) m) else m
theorem HE {R : List (Option (List Int))} {m : Mach} (h : m.fin ≠ 0) : ∀ l : List FW, Fs b s fuel R l m = m
  | [] => rfl
  | fr :: r => by unfold Fs; rw [if_neg h]
def Ji (b : Blocks) (s : ByteArray) (fuel : Int) (q : Q24) : Mach := Fs b s fuel q.R q.above.reverse (I3 b s fuel q.now (V2 q.R q.now.f) q.m)
theorem MM (b : Blocks) (s : ByteArray) (fuel : Int) (n : Nat) : ∀ i m, m.steps <= (mfun b s fuel n i m).steps := fun i m => D6 n i m
theorem Ja {F : BFunc} {f : Nat} {i : Int} {k : Block} (hk : F.blocks[i.toNat]? = some k) {g : Nat} (regs : List Int) (m : Mach) (hg : E7 fuel g m) (h0 : 0 < g) : Dd (mfun b s fuel f) s fuel F g i regs m = FD b s fuel f F k 0 regs m := by
  obtain ⟨g, rfl⟩ : ∃ g', g = g' + 1 := ⟨g - 1, by omega⟩
  unfold Dd FD
  rw [hk]
  simp only [List.drop_zero]
  have hs := D5 (call := mfun b s fuel f) (s := s) (fuel := fuel) (MM b s fuel f) k.ins regs m
  generalize B2 (mfun b s fuel f) s fuel k.ins regs m = p at hs |-
  cases p.1 with
  | false => rfl
  | true =>
    simp only [cond_true]
    cases e2 : (AG fuel p.2.2).1 with
    | false => rfl
    | true =>
      obtain ⟨a1, a2⟩ := DC e2
      rw [a2]
      cases !(k.fin == 3) with
      | false => rfl
      | true =>
        simp only [Bool.true_and, cond_true]
        unfold E7 at hg
        refine mblk_gas50 (MM b s fuel f) _ _ _ _ _ ?_ ?_ ?_ ?_
        . show fuel.toNat < p.2.2.steps + 1 + g; omega
        . show fuel.toNat < p.2.2.steps + 1 + (fuel.toNat + 1); omega
        . omega
        . omega
structure cp (b : Blocks) (R : List (Option (List Int))) (fr : FW) : Prop where
  ex : ∃ F k l, b.funcs[fr.f]? = some F /\ F.blocks[fr.blk.toNat]? = some k /\ 0 <= fr.blk /\ fr.at' <= k.ins.length /\ R[fr.f]? = some (some l) /\ l.length = F.regs.toNat /\ Er l
theorem Ii {R : List (Option (List Int))} {f : Nat} {l : List Int} (h : R[f]? = some (some l)) : V2 R f = l := by simp [V2, h]
theorem Rp {R : List (Option (List Int))} {f g : Nat} {l : List Int} (h : f ≠ g) : V2 (R.set g (some l)) f = V2 R f := by
  unfold V2; rw [List.getElem?_set_ne (Ne.symm h)]
theorem KE {R : List (Option (List Int))} {f : Nat} {l : List Int} (h : f < R.length) : V2 (R.set f (some l)) f = l := by
  unfold V2; rw [List.getElem?_set_self h]; rfl
theorem HD {R : List (Option (List Int))} {g : Nat} {l : List Int} : ∀ (fs : List FW), (∀ fr ∈ fs, fr.f ≠ g) -> ∀ m, Fs b s fuel (R.set g (some l)) fs m = Fs b s fuel R fs m
  | [], _, _ => rfl
  | fr :: r, h, m => by
    unfold Fs
    rw [Rp (h fr (by simp))]
    split
    . exact HD r (fun x hx => h x (by simp [hx])) _
    . rfl
theorem CQ {fr : FW} {F : BFunc} {k : Block} (hF : b.funcs[fr.f]? = some F) (hk : F.blocks[fr.blk.toNat]? = some k) (regs : List Int) (m : Mach) : I3 b s fuel fr regs m = FD b s fuel fr.f F k fr.at' regs m := by
  unfold I3; rw [hF]; simp only; rw [hk]
structure SInv (b : Blocks) (s : ByteArray) (fuel : Int) (W : Nat) (tgt : Mach) (q : Q24) : Prop where
  good : q.m.good W
  fin : q.m.fin = 0
  rl : q.R.length = b.funcs.length
  now : cp b q.R q.now
  ab : ∀ fr ∈ q.above, cp b q.R fr
  lt : ∀ fr ∈ q.above, q.now.f < fr.f
  sort : q.above.Pairwise (fun x y => y.f < x.f)
  al : q.above.length <= q.m.steps
  tgt : Ji b s fuel q = tgt
variable {W : Nat} {tgt : Mach} {q : Q24}
theorem IB {α : Type} {l : List α} {k : Nat} {x : α} (h : l[k]? = some x) : l.drop k = x :: l.drop (k + 1) := by
  obtain ⟨a, b⟩ := List.getElem?_eq_some_iff.1 h
  rw [List.drop_eq_getElem_cons a, b]
theorem SInv.noFuel (h : SInv b s fuel W tgt q) (hf : decide ((q.m.steps : Int) >= fuel) = true) : tgt = { q.m with fin := 5 } := by
  obtain ⟨F, k, l, h1, h2, h3, h4, h5, h6, h7⟩ := h.now.ex
  rw [<- h.tgt, Ji, CQ h1 h2]
  have hm := KN hf
  have key : FD b s fuel q.now.f F k q.now.at' (V2 q.R q.now.f) q.m = { q.m with fin := 5 } := by
    unfold FD
    by_cases hat : q.now.at' < k.ins.length
    . obtain ⟨t, ht⟩ := At hat
      rw [IB ht]
      unfold B2
      rw [hm]
      rfl
    . rw [List.drop_eq_nil_of_le (by omega)]
      unfold B2
      simp only [cond_true, hm, Bool.false_and, cond_false]
  rw [key, HE (by show (5 : Int) ≠ 0; decide)]
theorem D8 {m : Mach} (h : m.good W) : ({ m with steps := m.steps + 1 } : Mach).good W := ⟨h.len, h.words, h.out⟩
theorem SInv.insEnd (h : SInv b s fuel W tgt q) {F : BFunc} {k : Block} {t : Tac} {l : List Int} (h1 : b.funcs[q.now.f]? = some F) (h2 : F.blocks[q.now.blk.toNat]? = some k) (ht : k.ins[q.now.at']? = some t) (hl : q.R[q.now.f]? = some (some l)) (hf : decide ((q.m.steps : Int) >= fuel) = false) (h10 : t.op ≠ 10)
    (he : (AL (fun _ m => m) s t l { q.m with steps := q.m.steps + 1 }).2.fin ≠ 0) : tgt = (AL (fun _ m => m) s t l { q.m with steps := q.m.steps + 1 }).2 := by
  rw [<- h.tgt, Ji, CQ h1 h2, Ii hl]
  have hc : AL (mfun b s fuel q.now.f) s t l { q.m with steps := q.m.steps + 1 } = AL (fun _ m => m) s t l { q.m with steps := q.m.steps + 1 } := HN (ok := fun _ => False) (fun _ _ h => h.elim) t (fun e => (h10 e).elim) _ _
  have key : FD b s fuel q.now.f F k q.now.at' l q.m = (AL (fun _ m => m) s t l { q.m with steps := q.m.steps + 1 }).2 := by
    unfold FD
    rw [IB ht]
    unfold B2
    rw [EN hf]
    simp only [cond_true, hc]
    have : ((AL (fun _ m => m) s t l { q.m with steps := q.m.steps + 1 }).2.fin == 0) = false := by rw [beq_eq_false_iff_ne]; exact he
    rw [this]
    rfl
  rw [key, HE he]
theorem SInv.ins (h : SInv b s fuel W tgt q) {F : BFunc} {k : Block} {t : Tac} {l : List Int} (h1 : b.funcs[q.now.f]? = some F) (h2 : F.blocks[q.now.blk.toNat]? = some k) (ht : k.ins[q.now.at']? = some t) (hw : CD t.n) (hl : q.R[q.now.f]? = some (some l)) (hf : decide ((q.m.steps : Int) >= fuel) = false) (h10 : t.op ≠ 10)
    (he : (AL (fun _ m => m) s t l { q.m with steps := q.m.steps + 1 }).2.fin = 0) (hst : (AL (fun _ m => m) s t l { q.m with steps := q.m.steps + 1 }).2.steps = q.m.steps + 1) :
    SInv b s fuel W tgt ⟨⟨q.now.f, q.now.blk, q.now.at' + 1⟩, q.above, q.R.set q.now.f (some (AL (fun _ m => m) s t l { q.m with steps := q.m.steps + 1 }).1), (AL (fun _ m => m) s t l { q.m with steps := q.m.steps + 1 }).2⟩ := by
  obtain ⟨F', k', l', g1, g2, g3, g4, g5, g6, g7⟩ := h.now.ex
  rw [h1] at g1; cases g1
  rw [h2] at g2; cases g2
  rw [hl] at g5; cases g5
  have hlt := (List.getElem?_eq_some_iff.1 hl).1
  have hat := (List.getElem?_eq_some_iff.1 ht).1
  obtain ⟨m1, m2, m3⟩ := FK (call := fun _ m => m) (s := s) (fun _ _ h => h) t hw g7 (D8 h.good)
  have hc : AL (mfun b s fuel q.now.f) s t l { q.m with steps := q.m.steps + 1 } = AL (fun _ m => m) s t l { q.m with steps := q.m.steps + 1 } := HN (ok := fun _ => False) (fun _ _ h => h.elim) t (fun e => (h10 e).elim) _ _
  refine ⟨m3, he, by rw [List.length_set]; exact h.rl, ⟨F, k, _, h1, h2, g3, by show q.now.at' + 1 <= _; omega, by rw [List.getElem?_set_self hlt], by rw [m2]; exact g6, m1⟩, fun fr hfr => ?_, h.lt, h.sort, ?_, ?_⟩
  . obtain ⟨F2, k2, l2, a1, a2, a3, a4, a5, a6, a7⟩ := (h.ab fr hfr).ex
    have := h.lt fr hfr
    exact ⟨F2, k2, l2, a1, a2, a3, a4, by rw [List.getElem?_set_ne (by omega)]; exact a5, a6, a7⟩
  . show q.above.length <= _; rw [hst]; have := h.al; omega
  . rw [<- h.tgt, Ji, Ji]
    simp only
    rw [HD _ (fun fr hfr => by have := h.lt fr (by simpa using hfr); omega), KE hlt, CQ h1 h2, CQ (fr := ⟨q.now.f, q.now.blk, q.now.at' + 1⟩) h1 h2, Ii hl]
    congr 1
    unfold FD
    rw [IB ht]
    conv => rhs; unfold B2
    rw [EN hf]
    simp only [cond_true, hc, he]
    rfl
theorem SInv.call (hb : b.right = true) (hW : W = b.words.toNat) (h : SInv b s fuel W tgt q) {F : BFunc} {k : Block} {t : Tac} (h1 : b.funcs[q.now.f]? = some F) (h2 : F.blocks[q.now.blk.toNat]? = some k) (ht : k.ins[q.now.at']? = some t) (hf : decide ((q.m.steps : Int) >= fuel) = false) (h10 : t.op = 10) {G : BFunc} (hG : b.funcs[t.base.toNat]? = some G) :
    SInv b s fuel W tgt ⟨⟨t.base.toNat, 0, 0⟩, q.above ++ [⟨q.now.f, q.now.blk, q.now.at' + 1⟩], q.R.set t.base.toNat (some (List.replicate G.regs.toNat 0)), { q.m with steps := q.m.steps + 1 }⟩ := by
  obtain ⟨F', k', l, g1, g2, g3, g4, g5, g6, g7⟩ := h.now.ex
  rw [h1] at g1; cases g1
  rw [h2] at g2; cases g2
  have hbase := GG hb h1 k (List.mem_of_getElem? h2) t (List.mem_of_getElem? ht) h10
  have hat := (List.getElem?_eq_some_iff.1 ht).1
  have hlt : t.base.toNat < q.R.length := by have := (List.getElem?_eq_some_iff.1 hG).1; rw [h.rl]; exact this
  have hGb : G.blocks ≠ [] := (Ek ((DA hb).2.2.2 _ G hG)).2.2.1
  obtain ⟨k0, hk0⟩ := At (l := G.blocks) (k := 0) (List.length_pos_iff.2 hGb)
  have hne : q.now.f ≠ t.base.toNat := by omega
  refine ⟨D8 h.good, h.fin, by rw [List.length_set]; exact h.rl, ⟨G, k0, _, hG, hk0, Int.le_refl _, Nat.zero_le _, by rw [List.getElem?_set_self hlt], by simp, Ep _⟩, fun fr hfr => ?_, fun fr hfr => ?_, ?_, ?_, ?_⟩
  . simp only [List.mem_append, List.mem_singleton] at hfr
    rcases hfr with hfr | rfl
    . obtain ⟨F2, k2, l2, a1, a2, a3, a4, a5, a6, a7⟩ := (h.ab fr hfr).ex
      have := h.lt fr hfr
      exact ⟨F2, k2, l2, a1, a2, a3, a4, by rw [List.getElem?_set_ne (by omega)]; exact a5, a6, a7⟩
    . exact ⟨F, k, l, h1, h2, g3, by show q.now.at' + 1 <= _; omega, by rw [List.getElem?_set_ne (Ne.symm hne)]; exact g5, g6, g7⟩
  . simp only [List.mem_append, List.mem_singleton] at hfr
    show t.base.toNat < fr.f
    rcases hfr with hfr | rfl
    . have := h.lt fr hfr; omega
    . show t.base.toNat < q.now.f; omega
  . refine List.pairwise_append.2 ⟨h.sort, List.pairwise_singleton _ _, fun x hx y hy => ?_⟩
    simp only [List.mem_singleton] at hy
    subst hy
    exact h.lt x hx
  . have := h.al; simp only [List.length_append, List.length_singleton]; omega
  . rw [<- h.tgt, Ji, Ji]
    simp only [List.reverse_append, List.reverse_singleton, List.singleton_append]
    rw [KE hlt, CQ h1 h2, Ii g5]
    -- what the call comes to
    have hcall : I3 b s fuel ⟨t.base.toNat, 0, 0⟩ (List.replicate G.regs.toNat 0) { q.m with steps := q.m.steps + 1 } = mfun b s fuel q.now.f t.base { q.m with steps := q.m.steps + 1 } := by
      rw [CQ hG hk0]
      have hlev := KT hb (s := s) (fuel := fuel) q.now.f (t.base.toNat + 1) t.base { q.m with steps := q.m.steps + 1 } hbase.1 (by omega) (by omega) (by have := (List.getElem?_eq_some_iff.1 h1).1; omega)
      rw [hlev]
      conv => rhs; unfold mfun
      rw [hG]
      simp only
      rw [Ja (i := 0) hk0 _ _ (by unfold E7; omega) (by omega)]
    rw [hcall]
    generalize hM : mfun b s fuel q.now.f t.base { q.m with steps := q.m.steps + 1 } = M
    have hkey : FD b s fuel q.now.f F k q.now.at' l q.m = if M.fin = 0 then FD b s fuel q.now.f F k (q.now.at' + 1) l M else M := by
      unfold FD
      rw [IB ht]
      conv => lhs; unfold B2
      rw [EN hf]
      simp only [cond_true, I9 h10, hM]
      by_cases hz : M.fin = 0
      . rw [if_pos hz, hz]; rfl
      . have : (M.fin == 0) = false := by rw [beq_eq_false_iff_ne]; exact hz
        rw [if_neg hz, this]; rfl
    rw [hkey]
    have hab : ∀ fr ∈ q.above.reverse, fr.f ≠ t.base.toNat := fun fr hfr => by have := h.lt fr (by simpa using hfr); omega
    conv => lhs; unfold Fs
    by_cases hz : M.fin = 0
    . rw [if_pos hz, if_pos hz, Rp hne, HD _ hab, CQ (fr := ⟨q.now.f, q.now.blk, q.now.at' + 1⟩) h1 h2, Ii g5]
    . rw [if_neg hz, if_neg hz, HE hz]
theorem SInv.endRest (h : SInv b s fuel W tgt q) {F : BFunc} {k : Block} {l : List Int} (h1 : b.funcs[q.now.f]? = some F) (h2 : F.blocks[q.now.blk.toNat]? = some k) (hat : k.ins.length <= q.now.at') (hf : decide ((q.m.steps : Int) >= fuel) = false) :
    I3 b s fuel q.now l q.m = bif !(k.fin == 3) then Dd (mfun b s fuel q.now.f) s fuel F (fuel.toNat + 1) (k.next l) l { q.m with steps := q.m.steps + 1 } else { q.m with steps := q.m.steps + 1 } := by
  rw [CQ h1 h2]
  unfold FD
  rw [List.drop_eq_nil_of_le hat]
  unfold B2
  simp only [cond_true, EN hf, Bool.true_and]
theorem SInv.jump (hb : b.right = true) (h : SInv b s fuel W tgt q) {F : BFunc} {k : Block} {l : List Int} (h1 : b.funcs[q.now.f]? = some F) (h2 : F.blocks[q.now.blk.toNat]? = some k) (hat : k.ins.length <= q.now.at') (hl : q.R[q.now.f]? = some (some l)) (hf : decide ((q.m.steps : Int) >= fuel) = false) (h3 : (k.fin == 3) = false) {to : Int} (hto : k.next l = to) :
    SInv b s fuel W tgt ⟨⟨q.now.f, to, 0⟩, q.above, q.R, { q.m with steps := q.m.steps + 1 }⟩ := by
  obtain ⟨F', k', l', g1, g2, g3, g4, g5, g6, g7⟩ := h.now.ex
  rw [h1] at g1; cases g1
  rw [h2] at g2; cases g2
  rw [hl] at g5; cases g5
  have hone := Ek ((DA hb).2.2.2 _ F h1)
  have hn := MG (hone.2.2.2 k (List.mem_of_getElem? h2)).1 h3 l
  rw [hto] at hn
  obtain ⟨k2, hk2⟩ := At (l := F.blocks) (k := to.toNat) (by omega)
  refine ⟨D8 h.good, h.fin, h.rl, ⟨F, k2, l, h1, hk2, hn.1, Nat.zero_le _, hl, g6, g7⟩, h.ab, h.lt, h.sort, Nat.le_succ_of_le h.al, ?_⟩
  rw [<- h.tgt, Ji, Ji]
  simp only
  rw [Ii hl, h.endRest h1 h2 hat hf, h3, hto]
  simp only [Bool.not_false, cond_true]
  rw [Ja (i := to) hk2 _ _ (by unfold E7; show fuel.toNat < q.m.steps + 1 + _; omega) (by omega), CQ (fr := ⟨q.now.f, to, 0⟩) h1 hk2]
theorem SInv.done (h : SInv b s fuel W tgt q) {F : BFunc} {k : Block} (h1 : b.funcs[q.now.f]? = some F) (h2 : F.blocks[q.now.blk.toNat]? = some k) (hat : k.ins.length <= q.now.at') (hf : decide ((q.m.steps : Int) >= fuel) = false) (h3 : (k.fin == 3) = true) (ha : q.above = []) : tgt = { q.m with steps := q.m.steps + 1 } := by
  rw [<- h.tgt, Ji, ha, h.endRest h1 h2 hat hf, h3]
  rfl
theorem SInv.ret (h : SInv b s fuel W tgt q) {F : BFunc} {k : Block} {fr : FW} (h1 : b.funcs[q.now.f]? = some F) (h2 : F.blocks[q.now.blk.toNat]? = some k) (hat : k.ins.length <= q.now.at') (hf : decide ((q.m.steps : Int) >= fuel) = false) (h3 : (k.fin == 3) = true) (ha : q.above.getLast? = some fr) :
    SInv b s fuel W tgt ⟨fr, q.above.dropLast, q.R, { q.m with steps := q.m.steps + 1 }⟩ := by
  have hw : q.above = q.above.dropLast ++ [fr] := by
    have hne : q.above ≠ [] := by intro e; rw [e] at ha; simp at ha
    have h4 := List.dropLast_concat_getLast hne
    rw [List.getLast?_eq_some_getLast hne] at ha
    cases ha
    exact h4.symm
  have hm : fr ∈ q.above := by rw [hw]; simp
  have hsort := h.sort
  rw [hw] at hsort
  obtain ⟨s1, s2, s3⟩ := List.pairwise_append.1 hsort
  refine ⟨D8 h.good, h.fin, h.rl, h.ab fr hm, fun x hx => h.ab x (List.dropLast_subset _ hx), fun x hx => s3 x hx fr (by simp), s1, ?_, ?_⟩
  . have := h.al; simp only [List.length_dropLast]; omega
  . rw [<- h.tgt, Ji, Ji]
    simp only
    rw [h.endRest h1 h2 hat hf, h3]
    conv => rhs; rw [hw]
    simp only [List.reverse_append, List.reverse_singleton, List.singleton_append, Bool.not_true, cond_false]
    conv => rhs; unfold Fs
    rw [if_pos h.fin]
end
theorem OR (fuel : Int) (n : Nat) : decide ((n : Int) >= Cq fuel) = decide ((n : Int) >= fuel) := by
  unfold Cq
  cases e : decide (fuel < 0) with
  | true =>
    have : fuel < 0 := by simpa using e
    simp only [cond_true]
    rw [decide_eq_true (by omega), decide_eq_true (by omega)]
  | false => rfl
def q0 (b : Blocks) (F : BFunc) : Q24 := ⟨⟨b.funcs.length - 1, 0, 0⟩, [], (List.replicate b.funcs.length none).set (b.funcs.length - 1) (some (List.replicate F.regs.toNat 0)), m0 b⟩
theorem SInv.start {b : Blocks} (hb : b.right = true) (s : ByteArray) (fuel : Int) {F : BFunc} (hF : b.funcs[b.funcs.length - 1]? = some F) :
    SInv b s (Cq fuel) b.words.toNat (mfun b s (Cq fuel) b.funcs.length ((b.funcs.length : Int) - 1) (m0 b)) (q0 b F) := by
  have hlt := (List.getElem?_eq_some_iff.1 hF).1
  have hFb : F.blocks ≠ [] := (Ek ((DA hb).2.2.2 _ F hF)).2.2.1
  obtain ⟨k0, hk0⟩ := At (l := F.blocks) (k := 0) (List.length_pos_iff.2 hFb)
  refine ⟨⟨by simp [q0, m0], Ep _, by simp [q0, m0]⟩, rfl, by simp [q0], ⟨F, k0, _, hF, hk0, Int.le_refl _, Nat.zero_le _, List.getElem?_set_self (by simpa using hlt), by simp, Ep _⟩, (fun fr h => by cases h), (fun fr h => by cases h), List.Pairwise.nil, Nat.zero_le _, ?_⟩
  rw [Ji]
  simp only [q0, List.reverse_nil, Fs]
  rw [KE (by simpa using hlt), CQ (fr := ⟨b.funcs.length - 1, 0, 0⟩) hF hk0]
  obtain ⟨n, hn⟩ : ∃ n, b.funcs.length = n + 1 := ⟨b.funcs.length - 1, by omega⟩
  rw [hn]
  conv => rhs; unfold mfun
  have hi : (((n + 1 : Nat) : Int) - 1).toNat = n := by omega
  rw [hi]
  rw [hn, Nat.add_sub_cancel] at hF
  rw [hF]
  simp only [Nat.add_sub_cancel]
  rw [Ja (i := 0) hk0 _ _ (by unfold E7; omega) (by omega)]
section
variable {P : Program} {o : Oper} {e : Az} {h : Ab}
theorem Ni {f : FuncId} {fn : Func} {args : Array Operand} {tys : Array TypeId} {xs : List AV} {r : AV} {hn : Ab} (ho : o.op = .call { callee := .value (.func f), args := args, argTypes := tys }) (hf : P.funcs[f]? = some fn) (hnm : (fn.name == "runtime.NumGoroutine") = false) (hb : fn.body.isSome = true)
    (hx : Ba e args.toList = some xs) (hcall : ACall P f xs h (fun r' h'' => r' = r /\ HSub hn h'')) : MU P o e h hn r := by
  intro H ι a w n Q hs
  have hcalls := hcall H ι w _ (CH hs hx) hs.heap
  have hexec : (execOp a.eval o).run P w = .ok (.enter f (args.map a.eval)) w := by
    simp [execOp, ho, resolve, Act.eval, Deferred.ofValue, invoke, Cp hf hnm hb]
  unfold Oper.wp
  rw [hexec]
  refine hcalls.mono fun en w' hh => ?_
  obtain ⟨v, r', h', H', ι', rfl, ⟨rfl, hsub⟩, k1, k2, k3⟩ := hh
  refine ⟨v, H', ι', rfl, k1, k2.sub hsub, ⟨k3.size, k3.os, k3.out, k3.keep, k3.kle, k3.knew, k3.lle, k3.lframe, k3.newrb, fun b hb => ?_⟩⟩
  have := k3.dom b hb
  cases e2 : hn b with
  | none => rfl
  | some q => rw [hsub b q e2] at this; cases this
end
theorem SX {h : Ab} {x : Nat} {o : AObj} (hx : h x = some o) : hput h x o = h := by
  funext b
  by_cases hb : b = x
  . subst hb; rw [AA, hx]
  . rw [Aj _ _ hb]
def KC (rb n : Nat) : AV := match n with | 0 => .lst false [] | n + 1 => .ref rb (n + 1) 0 (n + 1)
theorem Ih {rb n : Nat} (h : 0 < n) : KC rb n = .ref rb n 0 n := by
  obtain ⟨m, rfl⟩ : ∃ m, n = m + 1 := ⟨n - 1, by omega⟩
  rfl
theorem P1 (rb n : Nat) : (KC rb n).cell1 = true := by cases n <;> rfl
theorem Ix (x y z : Int) (rb n : Nat) : [AV.int .i64 x, .int .i64 y, .int .i64 z, KC rb n].all AV.cell1 = true := by
  simp only [List.all_cons, List.all_nil, P1, Bool.and_true]; rfl
theorem Jr {h h' : Ab} {x : Nat} {o : AObj} (hx : h' x = some o) (he : ∀ b q, b ≠ x -> h b = some q -> h' b = some q) : HSub (hput h x o) h' := fun b q hb => by
  by_cases hbx : b = x
  . subst hbx; rw [AA] at hb; cases hb; exact hx
  . rw [Aj _ _ hbx] at hb; exact he b q hbx hb
theorem Jq {h h' : Ab} {x y : Nat} {o q : AObj} (hx : h' x = some o) (hy : h' y = some q) (he : ∀ b r, b ≠ x -> b ≠ y -> h b = some r -> h' b = some r) : HSub (hput (hput h x o) y q) h' :=
  Jr hy fun b r hb hr => by
    by_cases hbx : b = x
    . subst hbx; rw [AA] at hr; cases hr; exact hx
    . rw [Aj _ _ hbx] at hr; exact he b r hbx hb hr
theorem BZ {h h' : Ab} {x y z u : Nat} {o1 o2 o3 o4 : AObj} (h1 : h' x = some o1) (h2 : h' y = some o2) (h3 : h' z = some o3) (h4 : h' u = some o4) (he : ∀ b r, b ≠ x -> b ≠ y -> b ≠ z -> b ≠ u -> h b = some r -> h' b = some r) : HSub (hput (hput (hput (hput h x o1) y o2) z o3) u o4) h' :=
  Jq h3 h4 fun b r hbz hbu hr => by
    by_cases hby : b = y
    . subst hby; rw [AA] at hr; cases hr; exact h2
    . rw [Aj _ _ hby] at hr
      by_cases hbx : b = x
      . subst hbx; rw [AA] at hr; cases hr; exact h1
      . rw [Aj _ _ hbx] at hr; exact he b r hbx hby hbz hbu hr
theorem Iu {h : Ab} {k b : Nat} {q : AObj} (hq : hrm h k b = some q) : b ≠ k /\ h b = some q := by
  by_cases hb : b = k
  . subst hb; rw [GM] at hq; cases hq
  . rw [Fv _ hb] at hq; exact ⟨hb, hq⟩
theorem GB {α : Type} {l : List α} {i : Nat} {x : α} (h : l[i]? = some x) : l.set i x = l := by
  apply List.ext_getElem?
  intro j
  by_cases hj : i = j
  . subst hj; rw [h, List.getElem?_set_self (List.getElem?_eq_some_iff.1 h).1]
  . rw [List.getElem?_set_ne hj]
theorem Oh (n : Nat) : List.replicate n [AV.int .u32 0] = Ac (List.replicate n 0) := F4 n
theorem WB {out : List UInt8} {c : Int} (h : CD c) : As out ++ [[AV.int .u8 (((byteOf c).toNat : Nat) : Int)]] = As (out ++ [byteOf c]) := by simp [As]
def IJ (x0 x2 : AV) (W : Nat) (s : ByteArray) (m : Mach) : List AV := [x0, .ref 1 W 0 W, x2, .str s, .int .i64 (m.read : Int), .ref 3 m.out.length 0 m.out.length]
theorem U8 {α : Type} {l : List α} {f : α -> List AV} {n : Int} {x : α} (h : l[n.toNat]? = some x) : (l.map f)[n.toNat]? = some (f x) := by rw [List.getElem?_map, h]; rfl
theorem KX {n : Nat} (h : 0 < n) (h2 : n <= 100000000) : A3 .sub (.int .i64 (n : Int)) (.int .i64 1) = some (.int .i64 ((n - 1 : Nat) : Int)) := by
  simp only [A3, BA, isShift, cond_false, if_true]
  rw [Bz (by omega) (by omega)]
  congr 2; omega
def YI (l : List Int) (z : Int) : Int := (l[z.toNat]?).getD 0
def ends (takes : List Int) : Nat -> Int -> Bool
  | 0, c => YI takes c == -1
  | g + 1, c => YI takes c == -1 || ends takes g (YI takes c)
theorem Ei {α : Type} {l : List α} {i : Nat} {x y : α} (h : l[i]? = some x) : (l.set i y)[i]? = some y := by
  have hi := (List.getElem?_eq_some_iff.1 h).1
  simp [hi]
section
variable {P : Program} {T : Nat -> Option AC} {o : Oper} {e : Az} {h : Ab}
end
theorem S8 (h : Ab) (b : Blocks) (F : BFunc) (f0 nf k n : Nat) (x1 x3 x4 x5 : AV) (tab : List (List AV)) (hh0 : h 0 = some (.row false 6 [[A6 b.funcs, x1, .ref 2 nf 0 nf, x3, x4, x5]])) (hh2 : h 2 = some (.row false 1 tab)) (hnt : nf = tab.length) (hfn : ((f0 : Nat) : Int) < ((nf : Nat) : Int)) (hF : b.funcs[f0]? = some F) (hreg : F.regs = (n : Int)) (hn4 : n <= 4000) (hfree : h k = some .free) (hk : k ≠ 0 /\ k ≠ 2 /\ k ≠ f0 + 16) (hget : tab[f0]? = some [.nil]) (hn0 : n = 0) : ACall Try.prog 40 [.ptr 0 1 0 0, .int .i64 (f0 : Int)] h (fun r h'' => r = .agg [.int .i64 (f0 : Int), .int .i64 0, .int .i64 0, .lst false []] /\ HSub (hput (hrm h k) 2 (.row false 1 (tab.set f0 [.lst false []]))) h'') := by
 obtain ⟨hk0, hk2, hkr⟩ := hk
 have hr0 : f0 + 16 ≠ 0 := by omega
 have hr2 : f0 + 16 ≠ 2 := by omega
 have hg2 : tab[0 + ((f0 : Nat) : Int).toNat]? = some [.nil] := by rw [Nat.zero_add, Int.toNat_natCast]; exact hget
 have hg3 : (tab.set (0 + ((f0 : Nat) : Int).toNat) [.lst false []])[0 + ((f0 : Nat) : Int).toNat]? = some [.lst false []] := Ei hg2
 have hnt2 : nf = (tab.set (0 + ((f0 : Nat) : Int).toNat) [.lst false []]).length := by rw [List.length_set]; exact hnt
 have hts : tab.set (0 + ((f0 : Nat) : Int).toNat) [.lst false []] = tab.set f0 [.lst false []] := by rw [Nat.zero_add, Int.toNat_natCast]
 refine ACall.of_body (n := 44) Am Try.func40 rfl rfl ?_;refine HV ?_;refine ax 4 (G8 Am k rfl rfl AR rfl (Nat.zero_lt_succ _) rfl) ?_;refine wk 7 ?_;refine aq 8 (Ar Am rfl rfl rfl (.ptr _ _ _ _ _ _ [[A6 b.funcs, x1, .ref 2 nf 0 nf, x3, x4, x5]] _ AR rfl rfl) rfl) ?_;refine am 9 ?_;refine aq 10 (Ah Am (es := tab) rfl rfl rfl rfl rfl rfl AR hnt rfl (Int.natCast_nonneg _) hfn) ?_;refine aq 11 (Ar Am rfl rfl rfl (.ptr _ _ _ _ _ _ tab [.nil] AR hnt hg2) rfl) ?_;refine aq 12 (Ru Am rfl rfl rfl rfl) ?_;refine wk 6 ?_;refine dq 16 (Ar Am rfl rfl rfl (.ptr _ _ _ _ _ _ [[A6 b.funcs, x1, .ref 2 nf 0 nf, x3, x4, x5]] _ AR rfl rfl) rfl) ?_;refine wk 4 ?_;refine dq 21 (Ar Am rfl rfl rfl (.ptr _ _ _ _ _ _ [[A6 b.funcs, x1, .ref 2 nf 0 nf, x3, x4, x5]] _ AR rfl rfl) rfl) ?_;refine wk 1 ?_;refine dq 23 (Yw Am (Cg hF)) ?_;refine wk 2 ?_
 refine dx 26 (Rv Am rfl rfl rfl (by rw [hreg, hn0]; rfl) (by rw [hreg, hn0]; rfl) rfl rfl rfl rfl (Nat.zero_lt_succ _) rfl) ?_;refine dq 27 (Ah Am (es := tab) rfl rfl rfl rfl rfl rfl AR hnt rfl (Int.natCast_nonneg _) hfn) ?_;refine DOps.w rfl rfl (o_store Am (es := tab) rfl rfl rfl rfl rfl AR hnt hg2 rfl (by decide) rfl (by intro h; cases h)) ?_;refine wk 6 ?_;refine aq 31 (Ar Am rfl rfl rfl (.ptr _ _ _ _ _ _ [[A6 b.funcs, x1, .ref 2 nf 0 nf, x3, x4, x5]] _ AR rfl rfl) rfl) ?_;refine wk 1 ?_;refine aq 33 (Ah Am (es := (tab.set (0 + ((f0 : Nat) : Int).toNat) [.lst false []])) rfl rfl rfl rfl rfl rfl AR hnt2 rfl (Int.natCast_nonneg _) hfn) ?_;refine aq 34 (Ar Am rfl rfl rfl (.ptr _ _ _ _ _ _ (tab.set (0 + ((f0 : Nat) : Int).toNat) [.lst false []]) [.lst false []] AR hnt2 hg3) rfl) ?_;refine AOps.w rfl rfl (KK Am rfl rfl rfl rfl) ?_
 refine wk 7 ?_;refine aq 39 (Ar Am rfl rfl rfl (.ptr _ _ _ _ _ _ [[A6 b.funcs, x1, .ref 2 nf 0 nf, x3, x4, x5]] _ AR rfl rfl) rfl) ?_;refine wk 1 ?_;refine aq 41 (Ah Am (es := (tab.set (0 + ((f0 : Nat) : Int).toNat) [.lst false []])) rfl rfl rfl rfl rfl rfl AR hnt2 rfl (Int.natCast_nonneg _) hfn) ?_;refine aq 42 (Ar Am rfl rfl rfl (.ptr _ _ _ _ _ _ (tab.set (0 + ((f0 : Nat) : Int).toNat) [.lst false []]) [.lst false []] AR hnt2 hg3) rfl) ?_;refine wk 1 ?_;refine AOps.w rfl rfl (o_store Am (es := [[.int .i64 0, .int .i64 0, .int .i64 0, .nil]]) rfl rfl rfl rfl rfl AR rfl rfl rfl (by decide) rfl (by intro h; cases h)) ?_;refine wk 2 ?_
 have hend : ∀ h'' : Ab, h'' = h'' := fun _ => rfl
 exact ⟨[_], ⟨⟨_, _, _, _, rfl, rfl, .ptr _ _ _ _ _ _ [[.int .i64 (f0 : Int), .int .i64 0, .int .i64 0, .lst false []]] _ AR rfl rfl, rfl⟩, trivial⟩, rfl, Jr (by rw [<- hts]; (try simp only [hputs]); repeat (first | assumption | exact AA _ _ _ | refine Aw R6 ?_)) (fun c q hc hq => by obtain ⟨q1, q2⟩ := Iu hq; simp only [hputs, Aj _ _ q1, Aj _ _ hc, q2])⟩
theorem S7 (h : Ab) (b : Blocks) (F : BFunc) (f0 nf k n : Nat) (x1 x3 x4 x5 : AV) (tab : List (List AV)) (hh0 : h 0 = some (.row false 6 [[A6 b.funcs, x1, .ref 2 nf 0 nf, x3, x4, x5]])) (hh2 : h 2 = some (.row false 1 tab)) (hnt : nf = tab.length) (hfn : ((f0 : Nat) : Int) < ((nf : Nat) : Int)) (hF : b.funcs[f0]? = some F) (hreg : F.regs = (n : Int)) (hn4 : n <= 4000) (hfree : h k = some .free) (hk : k ≠ 0 /\ k ≠ 2 /\ k ≠ f0 + 16) (hget : tab[f0]? = some [.nil]) (hpos : 0 < n) (hrb : h (f0 + 16) = some .free) : ACall Try.prog 40 [.ptr 0 1 0 0, .int .i64 (f0 : Int)] h (fun r h'' => r = .agg [.int .i64 (f0 : Int), .int .i64 0, .int .i64 0, .ref (f0 + 16) n 0 n] /\ HSub (hput (hput (hrm h k) 2 (.row false 1 (tab.set f0 [.ref (f0 + 16) n 0 n]))) (f0 + 16) (.row true 1 (Ac (List.replicate n 0)))) h'') := by
 obtain ⟨hk0, hk2, hkr⟩ := hk
 have hr0 : f0 + 16 ≠ 0 := by omega
 have hr2 : f0 + 16 ≠ 2 := by omega
 have hg2 : tab[0 + ((f0 : Nat) : Int).toNat]? = some [.nil] := by rw [Nat.zero_add, Int.toNat_natCast]; exact hget
 have hg3 : (tab.set (0 + ((f0 : Nat) : Int).toNat) [.ref (f0 + 16) n 0 n])[0 + ((f0 : Nat) : Int).toNat]? = some [.ref (f0 + 16) n 0 n] := Ei hg2
 have hnt2 : nf = (tab.set (0 + ((f0 : Nat) : Int).toNat) [.ref (f0 + 16) n 0 n]).length := by rw [List.length_set]; exact hnt
 have hts : tab.set (0 + ((f0 : Nat) : Int).toNat) [.ref (f0 + 16) n 0 n] = tab.set f0 [.ref (f0 + 16) n 0 n] := by rw [Nat.zero_add, Int.toNat_natCast]
 refine ACall.of_body (n := 44) Am Try.func40 rfl rfl ?_;refine HV ?_;refine ax 4 (G8 Am k rfl rfl AR rfl (Nat.zero_lt_succ _) rfl) ?_;refine wk 7 ?_;refine aq 8 (Ar Am rfl rfl rfl (.ptr _ _ _ _ _ _ [[A6 b.funcs, x1, .ref 2 nf 0 nf, x3, x4, x5]] _ AR rfl rfl) rfl) ?_;refine am 9 ?_;refine aq 10 (Ah Am (es := tab) rfl rfl rfl rfl rfl rfl AR hnt rfl (Int.natCast_nonneg _) hfn) ?_;refine aq 11 (Ar Am rfl rfl rfl (.ptr _ _ _ _ _ _ tab [.nil] AR hnt hg2) rfl) ?_;refine aq 12 (Ru Am rfl rfl rfl rfl) ?_;refine wk 6 ?_;refine dq 16 (Ar Am rfl rfl rfl (.ptr _ _ _ _ _ _ [[A6 b.funcs, x1, .ref 2 nf 0 nf, x3, x4, x5]] _ AR rfl rfl) rfl) ?_;refine wk 4 ?_;refine dq 21 (Ar Am rfl rfl rfl (.ptr _ _ _ _ _ _ [[A6 b.funcs, x1, .ref 2 nf 0 nf, x3, x4, x5]] _ AR rfl rfl) rfl) ?_;refine wk 1 ?_;refine dq 23 (Yw Am (Cg hF)) ?_;refine wk 2 ?_
 refine dx 26 (DG Am (n := n) (m := n) (f0 + 16) true rfl rfl rfl hreg hreg rfl rfl rfl AR rfl (Nat.zero_lt_succ _) rfl (Nat.le_refl _) (by show 4 * n <= _; omega) (by simp only [maxLen]; omega)) ?_;refine dq 27 (Ah Am (es := tab) rfl rfl rfl rfl rfl rfl AR hnt rfl (Int.natCast_nonneg _) hfn) ?_;refine DOps.w rfl rfl (o_store Am (es := tab) rfl rfl rfl rfl rfl AR hnt hg2 rfl (by decide) rfl (by intro h; cases h)) ?_;refine wk 6 ?_;refine aq 31 (Ar Am rfl rfl rfl (.ptr _ _ _ _ _ _ [[A6 b.funcs, x1, .ref 2 nf 0 nf, x3, x4, x5]] _ AR rfl rfl) rfl) ?_;refine wk 1 ?_;refine aq 33 (Ah Am (es := (tab.set (0 + ((f0 : Nat) : Int).toNat) [.ref (f0 + 16) n 0 n])) rfl rfl rfl rfl rfl rfl AR hnt2 rfl (Int.natCast_nonneg _) hfn) ?_;refine aq 34 (Ar Am rfl rfl rfl (.ptr _ _ _ _ _ _ (tab.set (0 + ((f0 : Nat) : Int).toNat) [.ref (f0 + 16) n 0 n]) [.ref (f0 + 16) n 0 n] AR hnt2 hg3) rfl) ?_
 refine AOps.w rfl rfl (Rw Am (es := List.replicate n [.int .u32 0]) rfl rfl rfl rfl rfl AR (by simp) hpos rfl rfl rfl rfl) ?_;refine wk 7 ?_;refine aq 39 (Ar Am rfl rfl rfl (.ptr _ _ _ _ _ _ [[A6 b.funcs, x1, .ref 2 nf 0 nf, x3, x4, x5]] _ AR rfl rfl) rfl) ?_;refine wk 1 ?_;refine aq 41 (Ah Am (es := (tab.set (0 + ((f0 : Nat) : Int).toNat) [.ref (f0 + 16) n 0 n])) rfl rfl rfl rfl rfl rfl AR hnt2 rfl (Int.natCast_nonneg _) hfn) ?_;refine aq 42 (Ar Am rfl rfl rfl (.ptr _ _ _ _ _ _ (tab.set (0 + ((f0 : Nat) : Int).toNat) [.ref (f0 + 16) n 0 n]) [.ref (f0 + 16) n 0 n] AR hnt2 hg3) rfl) ?_;refine wk 1 ?_;refine AOps.w rfl rfl (o_store Am (es := [[.int .i64 0, .int .i64 0, .int .i64 0, .nil]]) rfl rfl rfl rfl rfl AR rfl rfl rfl (by decide) rfl (by intro h; cases h)) ?_;refine wk 2 ?_
 have hend : ∀ h'' : Ab, h'' = h'' := fun _ => rfl
 exact ⟨[_], ⟨⟨_, _, _, _, rfl, rfl, .ptr _ _ _ _ _ _ [[.int .i64 (f0 : Int), .int .i64 0, .int .i64 0, .ref (f0 + 16) n 0 n]] _ AR rfl rfl, rfl⟩, trivial⟩, rfl, Jq (by rw [<- hts]; (try simp only [hputs]); repeat (first | assumption | exact AA _ _ _ | refine Aw R6 ?_)) (by rw [<- Oh]; (try simp only [hputs]); repeat (first | assumption | exact AA _ _ _ | refine Aw R6 ?_)) (fun c q hc hc2 hq => by obtain ⟨q1, q2⟩ := Iu hq; simp only [hputs, Aj _ _ q1, Aj _ _ hc, Aj _ _ hc2, q2])⟩
theorem S6 (h : Ab) (b : Blocks) (F : BFunc) (f0 nf k n : Nat) (x1 x3 x4 x5 : AV) (tab : List (List AV)) (hh0 : h 0 = some (.row false 6 [[A6 b.funcs, x1, .ref 2 nf 0 nf, x3, x4, x5]])) (hh2 : h 2 = some (.row false 1 tab)) (hnt : nf = tab.length) (hfn : ((f0 : Nat) : Int) < ((nf : Nat) : Int)) (hF : b.funcs[f0]? = some F) (hreg : F.regs = (n : Int)) (hn4 : n <= 4000) (hfree : h k = some .free) (hk : k ≠ 0 /\ k ≠ 2 /\ k ≠ f0 + 16) (hget : tab[f0]? = some [.lst false []]) (hn0 : n = 0) : ACall Try.prog 40 [.ptr 0 1 0 0, .int .i64 (f0 : Int)] h (fun r h'' => r = .agg [.int .i64 (f0 : Int), .int .i64 0, .int .i64 0, .lst false []] /\ HSub (hput (hrm h k) 2 (.row false 1 (tab.set f0 [.lst false []]))) h'') := by
 obtain ⟨hk0, hk2, hkr⟩ := hk
 have hr0 : f0 + 16 ≠ 0 := by omega
 have hr2 : f0 + 16 ≠ 2 := by omega
 have hg2 : tab[0 + ((f0 : Nat) : Int).toNat]? = some [.lst false []] := by rw [Nat.zero_add, Int.toNat_natCast]; exact hget
 have hg3 : (tab.set (0 + ((f0 : Nat) : Int).toNat) [.lst false []])[0 + ((f0 : Nat) : Int).toNat]? = some [.lst false []] := Ei hg2
 have hnt2 : nf = (tab.set (0 + ((f0 : Nat) : Int).toNat) [.lst false []]).length := by rw [List.length_set]; exact hnt
 have hts : tab.set (0 + ((f0 : Nat) : Int).toNat) [.lst false []] = tab.set f0 [.lst false []] := by rw [Nat.zero_add, Int.toNat_natCast]
 have htt : tab.set f0 [.lst false []] = tab := GB hget
 have hsame : tab.set (0 + ((f0 : Nat) : Int).toNat) (Dl [.lst false []] 0 (AV.cells (.lst false []))) = tab := by rw [Nat.zero_add, Int.toNat_natCast]; exact GB hget
 refine ACall.of_body (n := 44) Am Try.func40 rfl rfl ?_;refine HV ?_;refine ax 4 (G8 Am k rfl rfl AR rfl (Nat.zero_lt_succ _) rfl) ?_;refine wk 7 ?_;refine aq 8 (Ar Am rfl rfl rfl (.ptr _ _ _ _ _ _ [[A6 b.funcs, x1, .ref 2 nf 0 nf, x3, x4, x5]] _ AR rfl rfl) rfl) ?_;refine am 9 ?_;refine aq 10 (Ah Am (es := tab) rfl rfl rfl rfl rfl rfl AR hnt rfl (Int.natCast_nonneg _) hfn) ?_;refine aq 11 (Ar Am rfl rfl rfl (.ptr _ _ _ _ _ _ tab [.lst false []] AR hnt hg2) rfl) ?_;refine AOps.ex 12 rfl rfl rfl (UL Am rfl rfl rfl rfl) ?_
 intro W_ r_ hS_
 rcases hS_ with ⟨rfl, v, rfl⟩
 refine an ?_;refine asp 12 (fun hb1 => ?_) fun hb1 => ?_
 .
  refine wk 5 ?_;refine dq 16 (Ar Am rfl rfl rfl (.ptr _ _ _ _ _ _ [[A6 b.funcs, x1, .ref 2 nf 0 nf, x3, x4, x5]] _ AR rfl rfl) rfl) ?_;refine wk 4 ?_;refine dq 21 (Ar Am rfl rfl rfl (.ptr _ _ _ _ _ _ [[A6 b.funcs, x1, .ref 2 nf 0 nf, x3, x4, x5]] _ AR rfl rfl) rfl) ?_;refine wk 1 ?_;refine dq 23 (Yw Am (Cg hF)) ?_;refine wk 2 ?_;refine dx 26 (Rv Am rfl rfl rfl (by rw [hreg, hn0]; rfl) (by rw [hreg, hn0]; rfl) rfl rfl rfl rfl (Nat.zero_lt_succ _) rfl) ?_;refine dq 27 (Ah Am (es := tab) rfl rfl rfl rfl rfl rfl AR hnt rfl (Int.natCast_nonneg _) hfn) ?_;refine DOps.w rfl rfl (o_store Am (es := tab) rfl rfl rfl rfl rfl AR hnt hg2 rfl (by decide) rfl (by intro h; cases h)) ?_;refine wk 2 ?_
  try rw [hsame]
  try simp only [hputs, hsame]
  exact ZR
 refine wk 3 ?_
 try rw [hsame]
 try simp only [hputs, hsame]
 exact ZR
theorem S5 (h : Ab) (b : Blocks) (F : BFunc) (f0 nf k n : Nat) (x1 x3 x4 x5 : AV) (tab : List (List AV)) (hh0 : h 0 = some (.row false 6 [[A6 b.funcs, x1, .ref 2 nf 0 nf, x3, x4, x5]])) (hh2 : h 2 = some (.row false 1 tab)) (hnt : nf = tab.length) (hfn : ((f0 : Nat) : Int) < ((nf : Nat) : Int)) (hF : b.funcs[f0]? = some F) (hreg : F.regs = (n : Int)) (hn4 : n <= 4000) (hfree : h k = some .free) (hk : k ≠ 0 /\ k ≠ 2 /\ k ≠ f0 + 16) (hget : tab[f0]? = some [.ref (f0 + 16) n 0 n]) (hpos : 0 < n) (l : List Int) (hl : l.length = n) (hrb : h (f0 + 16) = some (.row true 1 (Ac l))) : ACall Try.prog 40 [.ptr 0 1 0 0, .int .i64 (f0 : Int)] h (fun r h'' => r = .agg [.int .i64 (f0 : Int), .int .i64 0, .int .i64 0, .ref (f0 + 16) n 0 n] /\ HSub (hput (hput (hrm h k) 2 (.row false 1 (tab.set f0 [.ref (f0 + 16) n 0 n]))) (f0 + 16) (.row true 1 (Ac (List.replicate n 0)))) h'') := by
 obtain ⟨hk0, hk2, hkr⟩ := hk
 have hr0 : f0 + 16 ≠ 0 := by omega
 have hr2 : f0 + 16 ≠ 2 := by omega
 have hg2 : tab[0 + ((f0 : Nat) : Int).toNat]? = some [.ref (f0 + 16) n 0 n] := by rw [Nat.zero_add, Int.toNat_natCast]; exact hget
 have hg3 : (tab.set (0 + ((f0 : Nat) : Int).toNat) [.ref (f0 + 16) n 0 n])[0 + ((f0 : Nat) : Int).toNat]? = some [.ref (f0 + 16) n 0 n] := Ei hg2
 have hnt2 : nf = (tab.set (0 + ((f0 : Nat) : Int).toNat) [.ref (f0 + 16) n 0 n]).length := by rw [List.length_set]; exact hnt
 have hts : tab.set (0 + ((f0 : Nat) : Int).toNat) [.ref (f0 + 16) n 0 n] = tab.set f0 [.ref (f0 + 16) n 0 n] := by rw [Nat.zero_add, Int.toNat_natCast]
 have htt : tab.set f0 [.ref (f0 + 16) n 0 n] = tab := GB hget
 have hsame : tab.set (0 + ((f0 : Nat) : Int).toNat) (Dl [.ref (f0 + 16) n 0 n] 0 (AV.cells (.ref (f0 + 16) n 0 n))) = tab := by rw [Nat.zero_add, Int.toNat_natCast]; exact GB hget
 refine ACall.of_body (n := 44) Am Try.func40 rfl rfl ?_;refine HV ?_;refine ax 4 (G8 Am k rfl rfl AR rfl (Nat.zero_lt_succ _) rfl) ?_;refine wk 7 ?_;refine aq 8 (Ar Am rfl rfl rfl (.ptr _ _ _ _ _ _ [[A6 b.funcs, x1, .ref 2 nf 0 nf, x3, x4, x5]] _ AR rfl rfl) rfl) ?_;refine am 9 ?_;refine aq 10 (Ah Am (es := tab) rfl rfl rfl rfl rfl rfl AR hnt rfl (Int.natCast_nonneg _) hfn) ?_;refine aq 11 (Ar Am rfl rfl rfl (.ptr _ _ _ _ _ _ tab [.ref (f0 + 16) n 0 n] AR hnt hg2) rfl) ?_;refine aq 12 (Wy Am (es := Ac l) rfl rfl rfl rfl AR (by rw [regCells_len, hl]) hpos) ?_;refine wk 8 ?_;refine aq 31 (Ar Am rfl rfl rfl (.ptr _ _ _ _ _ _ [[A6 b.funcs, x1, .ref 2 nf 0 nf, x3, x4, x5]] _ AR rfl rfl) rfl) ?_;refine wk 1 ?_;refine aq 33 (Ah Am (es := tab) rfl rfl rfl rfl rfl rfl AR hnt rfl (Int.natCast_nonneg _) hfn) ?_;refine aq 34 (Ar Am rfl rfl rfl (.ptr _ _ _ _ _ _ tab [.ref (f0 + 16) n 0 n] AR hnt hg2) rfl) ?_
 refine AOps.w rfl rfl (Rw Am (es := Ac l) rfl rfl rfl rfl rfl AR (by rw [regCells_len, hl]) hpos rfl rfl rfl rfl) ?_;refine wk 7 ?_;refine aq 39 (Ar Am rfl rfl rfl (.ptr _ _ _ _ _ _ [[A6 b.funcs, x1, .ref 2 nf 0 nf, x3, x4, x5]] _ AR rfl rfl) rfl) ?_;refine wk 1 ?_;refine aq 41 (Ah Am (es := tab) rfl rfl rfl rfl rfl rfl AR hnt rfl (Int.natCast_nonneg _) hfn) ?_;refine aq 42 (Ar Am rfl rfl rfl (.ptr _ _ _ _ _ _ tab [.ref (f0 + 16) n 0 n] AR hnt hg2) rfl) ?_;refine wk 1 ?_;refine AOps.w rfl rfl (o_store Am (es := [[.int .i64 0, .int .i64 0, .int .i64 0, .nil]]) rfl rfl rfl rfl rfl AR rfl rfl rfl (by decide) rfl (by intro h; cases h)) ?_;refine wk 2 ?_
 have hend : ∀ h'' : Ab, h'' = h'' := fun _ => rfl
 exact ⟨[_], ⟨⟨_, _, _, _, rfl, rfl, .ptr _ _ _ _ _ _ [[.int .i64 (f0 : Int), .int .i64 0, .int .i64 0, .ref (f0 + 16) n 0 n]] _ AR rfl rfl, rfl⟩, trivial⟩, rfl, Jq (by rw [htt]; (try simp only [hputs]); repeat (first | assumption | exact AA _ _ _ | refine Aw R6 ?_)) (by rw [<- Oh]; (try simp only [hputs]); repeat (first | assumption | exact AA _ _ _ | refine Aw R6 ?_)) (fun c q hc hc2 hq => by obtain ⟨q1, q2⟩ := Iu hq; simp only [hputs, Aj _ _ q1, Aj _ _ hc, Aj _ _ hc2, q2])⟩
theorem YK (h : Ab) (s : ByteArray) (read : Nat) (x0 x1 x2 x5 : AV) (hh : h 0 = some (.row false 6 [[x0, x1, x2, .str s, (.int .i64 (read : Int)), x5]])) (hs : s.size <= 9223372036854775807) : ACall Try.prog 60 [.ptr 0 1 0 0] h (fun r h'' => r = .int .u32 (bif decide (read < s.size) then ((inAt s read).toNat : Int) else 256) /\ h'' = hput h 0 (.row false 6 [[x0, x1, x2, .str s, (.int .i64 ((bif decide (read < s.size) then read + 1 else read : Nat) : Int)), x5]])) := by
 refine ACall.of_body (n := 32) Am Try.func60 rfl rfl ?_;refine wk 10 ?_;refine dq 7 (Ar Am rfl rfl rfl (.ptr _ _ _ _ _ _ [[x0, x1, x2, .str s, .int .i64 (read : Int), x5]] _ AR rfl rfl) rfl) ?_;refine wk 3 ?_;refine dq 11 (Ar Am rfl rfl rfl (.ptr _ _ _ _ _ _ [[x0, x1, x2, .str s, .int .i64 (read : Int), x5]] _ AR rfl rfl) rfl) ?_;refine wk 3 ?_;refine asp 13 (fun hb1 => ?_) fun hb1 => ?_
 .
  refine act ?_
  have hrd : ¬ read < s.size := by have h := hb1; simp at h; omega
  refine wk 5 ?_
  rw [decide_eq_false hrd]
  exact ⟨[_], ⟨rfl, trivial⟩, rfl, (SX hh).symm⟩
 refine BM ?_
 have hrd : read < s.size := by have h := hb1; simp at h; omega
 refine wk 6 ?_;refine dq 17 (Ar Am rfl rfl rfl (.ptr _ _ _ _ _ _ [[x0, x1, x2, .str s, .int .i64 (read : Int), x5]] _ AR rfl rfl) rfl) ?_;refine wk 3 ?_;refine dq 21 (Ar Am rfl rfl rfl (.ptr _ _ _ _ _ _ [[x0, x1, x2, .str s, .int .i64 (read : Int), x5]] _ AR rfl rfl) rfl) ?_;refine dq 22 (GI (c := inAt s read) Am rfl rfl rfl rfl rfl (Int.natCast_nonneg _) (K7 hrd)) ?_;refine wk 7 ?_;refine aq 26 (Ar Am rfl rfl rfl (.ptr _ _ _ _ _ _ [[x0, x1, x2, .str s, .int .i64 (read : Int), x5]] _ AR rfl rfl) rfl) ?_;refine aq 27 (Cc rfl rfl hrd (by simp only [maxLen]; omega)) ?_;refine wk 2 ?_;refine AOps.w rfl rfl (o_store Am (es := [[x0, x1, x2, .str s, .int .i64 (read : Int), x5]]) rfl rfl rfl rfl rfl AR rfl rfl rfl (by decide) rfl (by intro h; cases h)) ?_;refine wk 4 ?_;refine aq 31 (Bp Am rfl rfl rfl rfl rfl (r := ((inAt s read).toNat : Int)) (by rw [IntKind.wrap_u32]; have := (Lz (inAt s read)).2; omega)) ?_
 refine wk 3 ?_
 rw [decide_eq_true hrd]
 exact ⟨[_], ⟨rfl, trivial⟩, rfl, rfl⟩
theorem MI (op a b : Int) (hb : 0 <= b) : APure Try.prog 81 [.int .i64 op, .int .u32 a, .int .u32 b] (fun r => r = Ra (Ef op a b)) := by
 refine APure.of_body (n := 18) Am Try.func81 rfl rfl ?_;refine wk 11 ?_;refine asp 9 (fun hb1 => ?_) fun hb1 => ?_
 .
  refine wk 7 ?_;refine ⟨[_, _], ⟨rfl, rfl, trivial⟩, ?_, rfl⟩
  show AV.tup _ = AV.tup _
  simp [Ef, *]
 refine BM ?_
 have hb0 : ¬ b = 0 := by simpa using hb1
 refine wk 7 ?_;refine asp 11 (fun hb2 => ?_) fun hb2 => ?_
 .
  refine wk 5 ?_;refine aq 14 (AI (r := .int .u32 (IntKind.u32.wrap (a.tdiv b))) rfl rfl rfl (by simp [A3, BA, isShift, hb0])) ?_;refine wk 4 ?_;refine ⟨[_, _], ⟨rfl, rfl, trivial⟩, ?_, rfl⟩
  show AV.tup _ = AV.tup _
  simp [Ef, *]
 refine wk 6 ?_;refine aq 17 (AI (r := .int .u32 (a.tmod b)) rfl rfl rfl (by simp [A3, BA, isShift, hb0])) ?_;refine wk 4 ?_;refine ⟨[_, _], ⟨rfl, rfl, trivial⟩, ?_, rfl⟩
 show AV.tup _ = AV.tup _
 simp [Ef, *]
theorem N4 (op a b : Int) (hb : 0 <= b) : APure Try.prog 82 [.int .i64 op, .int .u32 a, .int .u32 b] (fun r => r = .int .u32 (ET op a b)) := by
 refine APure.of_body (n := 19) Am Try.func82 rfl rfl ?_;refine wk 12 ?_;refine asp 7 (fun hb1 => ?_) fun hb1 => ?_
 .
  refine wk 5 ?_;exact X6
 refine wk 7 ?_;refine asp 10 (fun hb2 => ?_) fun hb2 => ?_
 .
  refine wk 5 ?_;refine aq 15 (AI (r := .int .u32 (IntKind.u32.wrap (a * 2 ^ (min b.toNat IntKind.u32.bits)))) rfl rfl rfl (by simp only [A3, BA, isShift, cond_true, if_neg (show ¬ b < 0 by omega)])) ?_
  refine wk 2 ?_;exact X6
 refine wk 6 ?_;refine aq 18 (AI (r := .int .u32 (a.fdiv (2 ^ (min b.toNat IntKind.u32.bits)))) rfl rfl rfl (by simp only [A3, BA, isShift, cond_true, if_neg (show ¬ b < 0 by omega)])) ?_
 refine wk 2 ?_;exact X6
theorem Lr (op a b : Int) (hb : 0 <= b) : APure Try.prog 83 [.int .i64 op, .int .u32 a, .int .u32 b] (fun r => r = .int .u32 (C0 op a b)) := by
 refine APure.of_body (n := 23) Am Try.func83 rfl rfl ?_;refine wk 16 ?_;refine A7 10 (fun hb1 => ?_) fun hb1 => ?_
 .
  refine wk 6 ?_;refine asp 7 (fun hb2 => ?_) fun hb2 => ?_
  .
   refine wk 7 ?_;exact Pw
  refine wk 7 ?_;refine A7 18 (fun hb3 => ?_) fun hb3 => ?_
  .
   refine wk 6 ?_;refine asp 15 (fun hb4 => ?_) fun hb4 => ?_
   .
    refine wk 7 ?_;exact Pw
   refine wk 7 ?_;exact Pw
  refine wk 13 ?_;exact Pw
 refine wk 13 ?_;refine A7 18 (fun hb5 => ?_) fun hb5 => ?_
 .
  refine wk 6 ?_;refine asp 15 (fun hb6 => ?_) fun hb6 => ?_
  .
   refine wk 7 ?_;exact Pw
  refine wk 7 ?_;exact Pw
 refine wk 13 ?_;exact Pw
theorem Pn (op a b : Int) (hb : 0 <= b) : APure Try.prog 59 [.int .i64 op, .int .u32 a, .int .u32 b] (fun r => r = Ra (BC op a b)) := by
 refine APure.of_body (n := 62) Am Try.func59 rfl rfl ?_;refine wk 16 ?_;refine asp 9 (fun hb1 => ?_) fun hb1 => ?_
 .
  refine wk 10 ?_;exact HX
 refine wk 6 ?_;refine asp 14 (fun hb2 => ?_) fun hb2 => ?_
 .
  refine wk 10 ?_;exact HX
 refine wk 6 ?_;refine asp 19 (fun hb3 => ?_) fun hb3 => ?_
 .
  refine wk 10 ?_;exact HX
 refine wk 7 ?_;refine asp 24 (fun hb4 => ?_) fun hb4 => ?_
 .
  refine wk 8 ?_;refine ax 30 (CT Try.func81 (MI _ _ _ hb)) ?_;refine wk 6 ?_;exact HX
 refine wk 5 ?_;refine asp 24 (fun hb5 => ?_) fun hb5 => ?_
 .
  refine wk 6 ?_;refine ax 30 (CT Try.func81 (MI _ _ _ hb)) ?_;refine wk 6 ?_;exact HX
 refine wk 6 ?_;refine asp 33 (fun hb6 => ?_) fun hb6 => ?_
 .
  refine wk 10 ?_;exact HX
 refine wk 6 ?_;refine asp 38 (fun hb7 => ?_) fun hb7 => ?_
 .
  refine wk 10 ?_;exact HX
 refine wk 6 ?_;refine asp 43 (fun hb8 => ?_) fun hb8 => ?_
 .
  refine wk 10 ?_;exact HX
 refine wk 7 ?_;refine asp 48 (fun hb9 => ?_) fun hb9 => ?_
 .
  refine wk 8 ?_;refine ax 54 (CT Try.func82 (N4 _ _ _ hb)) ?_;refine wk 4 ?_;exact HX
 refine wk 5 ?_;refine asp 48 (fun hb10 => ?_) fun hb10 => ?_
 .
  refine wk 6 ?_;refine ax 54 (CT Try.func82 (N4 _ _ _ hb)) ?_;refine wk 4 ?_;exact HX
 refine wk 7 ?_;refine asp 55 (fun hb11 => ?_) fun hb11 => ?_
 .
  refine wk 8 ?_;refine ax 61 (CT Try.func83 (Lr _ _ _ hb)) ?_;refine wk 4 ?_;exact HX
 refine wk 5 ?_;refine asp 55 (fun hb12 => ?_) fun hb12 => ?_
 .
  refine wk 6 ?_;refine ax 61 (CT Try.func83 (Lr _ _ _ hb)) ?_;refine wk 4 ?_;exact HX
 refine wk 8 ?_;exact HX
end Go.Proofs.Ytmfihmkopmgelaa.Sv
