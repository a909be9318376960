/-
  WALKS: printed by a program of our own from the code's tree.
-/
import Derived.Test.YtmfihmkopmgelaaPBuildEnds4
import Derived.Test.YtmfihmkopmgelaaPBuildEnds2
namespace Go.Proofs.Ytmfihmkopmgelaa.Sv
open Go
set_option maxRecDepth 100000 in
theorem either1_ok (C : Core) (w : Bool) (b : Bd) (e y : CE) (d : Nat) (hy : e.kids[1]? = some y) (hT : ACall Try.prog 101 [.ptr 2 1 0 0, .loc y.row, .int .i64 (d : Int)] (RH (bL C w b) (bFam (b).blocks)) (fun r h' => r = .tup [] ∧ HSub (putR 2 hNone (RH (bL C w ((y.build C d b).truth y d)) (bFam (((y.build C d b).truth y d)).blocks))) h')) : ACall Try.prog 102 ([] ++ [] ++ [.ptr 4 1 0 0, .ptr 5 1 0 0, .ptr 6 1 0 0]) (RH (bL5 C w b (.row false 1 [[.ptr 2 1 0 0]]) (.row false 1 [[.loc e.row]]) (.row false 1 [[.int .i64 (d : Int)]])) (bFam (b).blocks)) (fun r h' => r = .tup [] ∧ HSub (putR 5 hNone (RH (bL5 C w ((y.build C d b).truth y d) (.row false 1 [[.ptr 2 1 0 0]]) (.row false 1 [[.loc e.row]]) (.row false 1 [[.int .i64 (d : Int)]])) (bFam (((y.build C d b).truth y d)).blocks))) h') := by
 refine ACall.of_body (n := 11) tok Try.func102 rfl rfl ?_
 refine AGo.draw mix ?_
 refine dl 3 tok ?_
 refine dl 4 tok ?_
 refine dq 5 (q_nilCheck rfl rfl rfl) ?_
 refine df 6 tok ?_
 refine dl 7 tok ?_
 refine dq 8 (q_index_lst tok rfl rfl rfl rfl rfl rfl (by decide) (idxE1 hy) rfl) ?_
 refine dl 9 tok ?_
 refine dx 10 (o_callRL C w b ((y.build C d b).truth y d) (b.blocks.length + ((y.build C d b).truth y d).blocks.length) (by omega) (by omega) rfl Try.func101 (by kernel_rfl) rfl rfl rfl z14q z2q rfl (hT)) ?_
 refine DOps.nilC clsB [([4],[]), ([5],[]), ([],[]), ([],[]), ([],[]), ([],[]), ([6],[]), ([2],[2])] z9q (by kernel_rfl) ?_
 exact ⟨[], trivial, rfl, (rh_sub rfl (by decide) z14q z2q)⟩
set_option maxHeartbeats 1000000 in
set_option maxRecDepth 100000 in
theorem beither_step (C : Core) (w : Bool) (b : Bd) (e x y : CE) (d : Nat) (hk : e.kind = 8 ∨ e.kind = 9) (hl : e.kids.length = 2) (hx : e.kids[0]? = some x) (hy : e.kids[1]? = some y) (z1 : Block) (hz1 : ((x.build C d b).truth x d).blocks[((x.build C d b).truth x d).now]? = some z1) (hc : ((x.build C d b).truth x d).cnt ≤ 90000000) (hT : ACall Try.prog 101 [.ptr 2 1 0 0, .loc x.row, .int .i64 (d : Int)] (RH (bL C w b) (bFam (b).blocks)) (fun r h' => r = .tup [] ∧ HSub (putR 2 hNone (RH (bL C w ((x.build C d b).truth x d)) (bFam (((x.build C d b).truth x d)).blocks))) h')) (x1 : Block)
    (hx1 : ∀ q, q = ((x.build C d b).truth x d).either0 e.kind d → ((y.build C d (q.go ((x.build C d b).truth x d).blocks.length)).truth y d).blocks[((y.build C d (q.go ((x.build C d b).truth x d).blocks.length)).truth y d).now]? = some x1) (hTy : ∀ q, q = ((x.build C d b).truth x d).either0 e.kind d → ACall Try.prog 101 [.ptr 2 1 0 0, .loc y.row, .int .i64 (d : Int)] (RH (bL C w (q.go ((x.build C d b).truth x d).blocks.length)) (bFam ((q.go ((x.build C d b).truth x d).blocks.length)).blocks)) (fun r h' => r = .tup [] ∧ HSub (putR 2 hNone (RH (bL C w ((y.build C d (q.go ((x.build C d b).truth x d).blocks.length)).truth y d)) (bFam (((y.build C d (q.go ((x.build C d b).truth x d).blocks.length)).truth y d)).blocks))) h')) : ACall Try.prog 88 [.ptr 2 1 0 0, .loc e.row, .int .i64 (d : Int)] (RH (bL C w b) (bFam (b).blocks)) (fun r h' => r = .tup [] ∧ HSub (putR 2 hNone (RH (bL C w (e.build C d b)) (bFam ((e.build C d b)).blocks))) h') := by
 have hO : Ext (.row false 1 [[.ptr 2 1 0 0]]) (.row false 1 [[.loc e.row]]) (.row false 1 [[.int .i64 (d : Int)]]) := ⟨⟨rfl, rfl, rfl⟩, rfl, rfl, rfl⟩
 have hlo := cnt_len ((x.build C d b).truth x d)
 have hol := opened_len ((x.build C d b).truth x d)
 refine ACall.of_body (n := 44) tok Try.func88 rfl rfl ?_
 refine asr ?_
 refine ax 3 (o_box (sz := 1) 4 rfl rfl rfl rfl (Nat.zero_lt_succ _) rfl) ?_
 refine ax 4 (o_box (sz := 1) 5 rfl rfl rfl rfl (Nat.zero_lt_succ _) rfl) ?_
 refine ax 5 (o_box (sz := 1) 6 rfl rfl rfl rfl (Nat.zero_lt_succ _) rfl) ?_
 refine an ?_
 refine AGo.seq ?_
 refine AGo.draw mix ?_
 refine dl 8 tok ?_
 refine dl 9 tok ?_
 refine dq 10 (q_nilCheck rfl rfl rfl) ?_
 refine df 11 tok ?_
 refine dl 12 tok ?_
 refine dq 13 (q_index_lst tok rfl rfl rfl rfl rfl rfl (by decide) (idxE0 hx) rfl) ?_
 refine dl 14 tok ?_
 refine dx 15 (o_callRL C w b ((x.build C d b).truth x d) (b.blocks.length + ((x.build C d b).truth x d).blocks.length) (by omega) (by omega) rfl Try.func101 (by kernel_rfl) rfl rfl rfl z14q z2q rfl (hT)) ?_
 refine DOps.nilC clsB [([4],[]), ([5],[]), ([],[]), ([],[]), ([],[]), ([],[]), ([6],[]), ([2],[2])] z9q (by kernel_rfl) ?_
 refine AGo.seq ?_
 refine AGo.sub (s' := ⟨44, (eput (eput (eput eNew 3 (.ptr 4 1 0 0)) 4 (.ptr 5 1 0 0)) 5 (.ptr 6 1 0 0)), (putR 5 hNone (RH (bL5 C w ((x.build C d b).truth x d) (.row false 1 [[.ptr 2 1 0 0]]) (.row false 1 [[.loc e.row]]) (.row false 1 [[.int .i64 (d : Int)]])) (bFam (((x.build C d b).truth x d)).blocks)))⟩) (Sub.mk' z34q (rh_sub rfl (by decide) z14q z2q)) ?_
 refine AGo.draw mix ?_
 refine dl 16 tok ?_
 refine dx 17 (o_callRL C w ((x.build C d b).truth x d) (((x.build C d b).truth x d).opened) (((x.build C d b).truth x d).blocks.length + (((x.build C d b).truth x d).opened).blocks.length) (by omega) (by omega) rfl Try.func28 (by kernel_rfl) rfl rfl rfl z14q z2q rfl (bopen_ok C w _ (by omega))) ?_
 refine dq 18 (q_load tok rfl rfl rfl (.ptr _ _ _ _ _ _ _ _ ((rW_lo (by decide)).trans rfl) rfl rfl) rfl) ?_
 refine dx 19 (o_callRL C w (((x.build C d b).truth x d).opened) (((x.build C d b).truth x d).opened.opened) ((((x.build C d b).truth x d).opened).blocks.length + (((x.build C d b).truth x d).opened.opened).blocks.length) (by omega) (by omega) rfl Try.func28 (by kernel_rfl) rfl rfl rfl z14q z2q rfl (bopen_ok C w _ (by omega))) ?_
 refine da 6 ?_
 refine da 7 ?_
 refine DOps.nilC clsB [([4],[]), ([2],[2]), ([4],[]), ([2],[2]), ([],[]), ([],[])] z9q (by kernel_rfl) ?_
 refine AGo.seq ?_
 refine AGo.seq ?_
 refine AGo.sub (s' := ⟨44, (eput (eput (eput (eput (eput eNew 3 (.ptr 4 1 0 0)) 4 (.ptr 5 1 0 0)) 5 (.ptr 6 1 0 0)) 6 (.int .i64 (((x.build C d b).truth x d).blocks.length : Int))) 7 (.int .i64 ((((x.build C d b).truth x d).blocks.length + 1 : Nat) : Int))), (putR 5 hNone (RH (bL5 C w (((x.build C d b).truth x d).opened.opened) (.row false 1 [[.ptr 2 1 0 0]]) (.row false 1 [[.loc e.row]]) (.row false 1 [[.int .i64 (d : Int)]])) (bFam ((((x.build C d b).truth x d).opened.opened)).blocks)))⟩) (Sub.mk' (by repeat (first | exact ESub.new _ | refine ESub.put ?_ (by first | rfl | (rw [← hol]; rfl)))) (rh_sub rfl (by decide) z14q z2q)) ?_
 have hz2 : (((x.build C d b).truth x d).opened.opened).blocks[(((x.build C d b).truth x d).opened.opened).now]? = some z1 := by
   have hl1 := (List.getElem?_eq_some_iff.1 hz1).1
   rw [show (((x.build C d b).truth x d).opened.opened).now = ((x.build C d b).truth x d).now from rfl, opened_old (by rw [opened_len]; omega), opened_old hl1]; exact hz1
 refine AGo.region ?_
 refine al 20 tok ?_
 refine aq 21 (q_nilCheck rfl rfl rfl) ?_
 refine af 22 tok ?_
 refine al 23 tok ?_
 refine aqb ?_
 refine an ?_
 refine AGo.join (γ := Bd) (fun q => ⟨44, (eput (eput (eput (eput (eput eNew 3 (.ptr 4 1 0 0)) 4 (.ptr 5 1 0 0)) 5 (.ptr 6 1 0 0)) 6 (.int .i64 (((x.build C d b).truth x d).blocks.length : Int))) 7 (.int .i64 ((((x.build C d b).truth x d).blocks.length + 1 : Nat) : Int))), (putR 5 hNone (RH (bL5 C w q (.row false 1 [[.ptr 2 1 0 0]]) (.row false 1 [[.loc e.row]]) (.row false 1 [[.int .i64 (d : Int)]])) (bFam (q).blocks)))⟩) (fun q => q = ((x.build C d b).truth x d).either0 e.kind d) ?_ ?_
 ·
  refine AGo.split 24 rfl (fun hb1 => ?_) (fun hb1 => ?_)
  ·
   refine act ?_
   have hk8 : (e.kind == 8) = true := hb1
   refine AGo.region ?_
   refine al 25 tok ?_
   refine al 26 tok ?_
   refine am 27 ?_
   refine am 28 ?_
   refine AOps.call 29 (hn := putR 2 _ (RH (bL C w ((((x.build C d b).truth x d).opened.opened).fork d ((x.build C d b).truth x d).blocks.length (((x.build C d b).truth x d).blocks.length + 1))) (bFam (((((x.build C d b).truth x d).opened.opened).fork d ((x.build C d b).truth x d).blocks.length (((x.build C d b).truth x d).blocks.length + 1))).blocks))) (r := .tup []) rfl rfl rfl (o_callRH 2 (bL C w (((x.build C d b).truth x d).opened.opened)) (bL C w ((((x.build C d b).truth x d).opened.opened).fork d ((x.build C d b).truth x d).blocks.length (((x.build C d b).truth x d).blocks.length + 1))) (bFam (((((x.build C d b).truth x d).opened.opened).fork d ((x.build C d b).truth x d).blocks.length (((x.build C d b).truth x d).blocks.length + 1))).blocks) rfl Try.func48 (by kernel_rfl) rfl rfl rfl rfl rfl (by decide) (bL_avoid C w _) (bL_avoid C w _) z30q z8q (fun x => bFam_avoid _ x) (fun x => bFam_avoid _ x) rfl (bfork_ok C w (((x.build C d b).truth x d).opened.opened) z1 hz2 d ((x.build C d b).truth x d).blocks.length (((x.build C d b).truth x d).blocks.length + 1))) ?_
   refine an ?_
   exact ⟨((((x.build C d b).truth x d).opened.opened).fork d ((x.build C d b).truth x d).blocks.length (((x.build C d b).truth x d).blocks.length + 1)), Sub.mk' z34q (rh_sub rfl (by decide) z14q z2q), (by unfold Bd.either0; rw [hk8]; rfl)⟩
  ·
   refine acf ?_
   have hk8 : (e.kind == 8) = false := hb1
   refine AGo.region ?_
   refine al 30 tok ?_
   refine al 31 tok ?_
   refine am 32 ?_
   refine am 33 ?_
   refine AOps.call 34 (hn := putR 2 _ (RH (bL C w ((((x.build C d b).truth x d).opened.opened).fork d (((x.build C d b).truth x d).blocks.length + 1) ((x.build C d b).truth x d).blocks.length)) (bFam (((((x.build C d b).truth x d).opened.opened).fork d (((x.build C d b).truth x d).blocks.length + 1) ((x.build C d b).truth x d).blocks.length)).blocks))) (r := .tup []) rfl rfl rfl (o_callRH 2 (bL C w (((x.build C d b).truth x d).opened.opened)) (bL C w ((((x.build C d b).truth x d).opened.opened).fork d (((x.build C d b).truth x d).blocks.length + 1) ((x.build C d b).truth x d).blocks.length)) (bFam (((((x.build C d b).truth x d).opened.opened).fork d (((x.build C d b).truth x d).blocks.length + 1) ((x.build C d b).truth x d).blocks.length)).blocks) rfl Try.func48 (by kernel_rfl) rfl rfl rfl rfl rfl (by decide) (bL_avoid C w _) (bL_avoid C w _) z30q z8q (fun x => bFam_avoid _ x) (fun x => bFam_avoid _ x) rfl (bfork_ok C w (((x.build C d b).truth x d).opened.opened) z1 hz2 d (((x.build C d b).truth x d).blocks.length + 1) ((x.build C d b).truth x d).blocks.length)) ?_
   refine an ?_
   exact ⟨((((x.build C d b).truth x d).opened.opened).fork d (((x.build C d b).truth x d).blocks.length + 1) ((x.build C d b).truth x d).blocks.length), Sub.mk' z34q (rh_sub rfl (by decide) z14q z2q), (by unfold Bd.either0; rw [hk8]; rfl)⟩
 intro q hq
 have hx1 := hx1 q hq
 have hTy := hTy q hq
 refine asr ?_
 refine al 35 tok ?_
 refine am 36 ?_
 refine am 37 ?_
 refine aq 38 (q_makeFunc rfl rfl rfl) ?_
 refine AOps.call 39 (hn := putR 5 _ (RH (bL5 C w ((((y.build C d (q.go ((x.build C d b).truth x d).blocks.length)).truth y d).jump (((x.build C d b).truth x d).blocks.length + 1)).go q.now) (.row false 1 [[.ptr 2 1 0 0]]) (.row false 1 [[.loc e.row]]) (.row false 1 [[.int .i64 (d : Int)]])) (bFam ((((y.build C d (q.go ((x.build C d b).truth x d).blocks.length)).truth y d).jump (((x.build C d b).truth x d).blocks.length + 1))).blocks))) (r := .tup []) rfl rfl rfl (o_callRH 5 (bL5 C w q (.row false 1 [[.ptr 2 1 0 0]]) (.row false 1 [[.loc e.row]]) (.row false 1 [[.int .i64 (d : Int)]])) (bL5 C w ((((y.build C d (q.go ((x.build C d b).truth x d).blocks.length)).truth y d).jump (((x.build C d b).truth x d).blocks.length + 1)).go q.now) (.row false 1 [[.ptr 2 1 0 0]]) (.row false 1 [[.loc e.row]]) (.row false 1 [[.int .i64 (d : Int)]])) (bFam (((y.build C d (q.go ((x.build C d b).truth x d).blocks.length)).truth y d).jump (((x.build C d b).truth x d).blocks.length + 1)).blocks) rfl Try.func89 (by kernel_rfl) rfl rfl rfl rfl rfl (by decide) (bL5_avoid C w _ hO) (bL5_avoid C w _ hO) z30q z8q (fun x => bFam_avoid _ x) (fun x => bFam_avoid _ x) rfl (binside_ok C w q (.row false 1 [[.ptr 2 1 0 0]]) (.row false 1 [[.loc e.row]]) (.row false 1 [[.int .i64 (d : Int)]]) hO ((x.build C d b).truth x d).blocks.length (((x.build C d b).truth x d).blocks.length + 1) 102 _ Try.func102 (by kernel_rfl) rfl [.ptr 4 1 0 0, .ptr 5 1 0 0, .ptr 6 1 0 0] rfl ((y.build C d (q.go ((x.build C d b).truth x d).blocks.length)).truth y d) x1 hx1 (either1_ok C w (q.go ((x.build C d b).truth x d).blocks.length) e y d hy hTy))) ?_
 refine an ?_
 refine AGo.region ?_
 refine al 40 tok ?_
 refine am 41 ?_
 refine aq 42 (q_nilCheck rfl rfl rfl) ?_
 refine af 43 tok ?_
 refine AOps.w rfl rfl (o_store tok rfl rfl rfl rfl rfl rfl rfl rfl rfl (by decide) rfl z40q) ?_
 refine an ?_
 have e1 : e.build C d b = ((((y.build C d (q.go ((x.build C d b).truth x d).blocks.length)).truth y d).jump (((x.build C d b).truth x d).blocks.length + 1)).go q.now).go (((x.build C d b).truth x d).blocks.length + 1) := by rw [bk89 hk hl hx hy, hq]; rfl
 rw [e1]
 exact ⟨[], trivial, rfl, (rh_sub rfl (by decide) z14q z2q)⟩
theorem bcall_ok (C : Core) (w : Bool) (n : Nat) (hr : CoreB C) {b : Bd} {g : Int} {gf : CFn} {l : List CE} {d : Nat} (hg0 : 0 ≤ g) (hgf : C.funcs[g.toNat]? = some gf) (hl6 : l.length ≤ 6) (hok : CE.okL C n l) (hP : Pl b) (hc : b.cnt + 11 * CE.partsL l ≤ 80000000) (hd : d + CE.partsL l ≤ 80000000)
    (hV : ∀ x ∈ l, ∀ (d : Nat) (b : Bd), Pl b → b.cnt + 11 * x.parts ≤ 80000000 → d + x.parts ≤ 80000000 → ACall Try.prog 64 [.ptr 2 1 0 0, .loc x.row, .int .i64 (d : Int)] (RH (bL C w b) (bFam (b).blocks)) (fun r h' => r = .tup [] ∧ HSub (putR 2 hNone (RH (bL C w (x.build C d b)) (bFam ((x.build C d b)).blocks))) h')) :
    ACall Try.prog 65 [.ptr 2 1 0 0, .int .i64 g, (.lst false (l.map CE.cells)), .int .i64 (d : Int)] (RH (bL C w b) (bFam (b).blocks)) (fun r h' => r = .tup [] ∧ HSub (putR 2 hNone (RH (bL C w ((CE.buildL C l d b).called C g l.length d)) (bFam (((CE.buildL C l d b).called C g l.length d)).blocks))) h') := by
  obtain ⟨f1, f2, f3, f4, f5⟩ := hr.fn gf (List.mem_of_getElem? hgf)
  have hw := hr.w1
  have hcnt : ∀ k, (CE.buildL C (l.take k) d b).cnt + (l.take k).length ≤ b.cnt + 11 * CE.partsL (l.take k) := fun k => cnt_exprs (m := 0) (fun e _ => cnt_expr e.parts e (Nat.le_refl _)) d b
  have hPk : ∀ k, Pl (CE.buildL C (l.take k) d b) := fun k => (codes_exprs (okL_take k hok) d b hP).pl
  have hct := hcnt l.length
  rw [List.take_length] at hct
  refine bcall_step C w b g gf l d hg0 hgf f4 (by omega) hl6 (fun k _ => hPk k) (by omega) (by omega) fun k x hx => ?_
  have hp := partsL_takes hx
  have hc2 := hcnt k
  exact hV x (List.mem_of_getElem? hx) (d + k) _ (hPk k) (by omega) (by omega)
theorem bval_ok (C : Core) (w : Bool) (n : Nat) (hr : CoreB C) : ∀ (m : Nat) (e : CE), e.parts ≤ m → e.ok C n → ∀ (d : Nat) (b : Bd), Pl b → b.cnt + 11 * e.parts ≤ 80000000 → d + e.parts ≤ 80000000 → ACall Try.prog 64 [.ptr 2 1 0 0, .loc e.row, .int .i64 (d : Int)] (RH (bL C w b) (bFam (b).blocks)) (fun r h' => r = .tup [] ∧ HSub (putR 2 hNone (RH (bL C w (e.build C d b)) (bFam ((e.build C d b)).blocks))) h')
  | 0, e, hm, _, _, _, _, _, _ => absurd hm (by have := parts_kids e; omega)
  | m + 1, e, hm, ho, d, b, hP, hc, hd => by
    have hpe := parts_kids e
    have hV : ∀ x ∈ e.kids, ∀ (d : Nat) (b : Bd), Pl b → b.cnt + 11 * x.parts ≤ 80000000 → d + x.parts ≤ 80000000 → ACall Try.prog 64 [.ptr 2 1 0 0, .loc x.row, .int .i64 (d : Int)] (RH (bL C w b) (bFam (b).blocks)) (fun r h' => r = .tup [] ∧ HSub (putR 2 hNone (RH (bL C w (x.build C d b)) (bFam ((x.build C d b)).blocks))) h') := fun x hx => bval_ok C w n hr m x (by have := parts_mem hx; omega) (eok_mem ho hx)
    have hPx : ∀ x ∈ e.kids, ∀ (d : Nat) (b : Bd), Pl b → Pl (x.build C d b) := fun x hx d b hb => (codes_expr x.parts x (Nat.le_refl _) (eok_mem ho hx) d b hb).pl
    refine bvalue_step C w b n e d ho hP hc hd hV hPx (codes_called (codes_exprs (eok_kids ho) d b hP).pl C e.slot e.kids.length d).pl (fun h4 => ?_) (fun h89 => ?_)
    · obtain ⟨g0, g1, fn, g2, _, g3, g4⟩ := eok_k4 ho h4
      exact bcall_ok C w n hr g0 g2 g4 (eok_kids ho) hP (by omega) (by omega) hV
    · have hl2 : e.kids.length = 2 := by
        have := eok_kK ho (by omega) (by omega) (by omega) (by omega) (by omega)
        omega
      obtain ⟨x, hx, hxm⟩ := get0 (l := e.kids) (by omega)
      obtain ⟨y, hy, hym⟩ := get1 (l := e.kids) (by omega)
      have hps : CE.partsL e.kids = x.parts + y.parts := by rw [kids_two hl2 hx hy, CE.partsL, CE.partsL, CE.partsL]; omega
      have hpx := parts_kids x
      have hpy := parts_kids y
      have hP1 := hPx x hxm d b hP
      have hP2 : Pl ((x.build C d b).truth x d) := (codes_truth hP1 x d).pl
      obtain ⟨z1, hz1⟩ := hP2.cur
      have c1 := cnt_expr (C := C) x.parts x (Nat.le_refl _) d b
      have c2 := cnt_truth (x.build C d b) x d
      have hQ := either0_pl hP2 e.kind d
      have hQ2 := hPx y hym d _ hQ
      have hQ3 : Pl ((y.build C d ((((x.build C d b).truth x d).either0 e.kind d).go ((x.build C d b).truth x d).blocks.length)).truth y d) := (codes_truth hQ2 y d).pl
      obtain ⟨x1, hx1⟩ := hQ3.cur
      have c3 := cnt_either0 ((x.build C d b).truth x d) e.kind d
      have c4 := cnt_expr (C := C) y.parts y (Nat.le_refl _) d ((((x.build C d b).truth x d).either0 e.kind d).go ((x.build C d b).truth x d).blocks.length)
      rw [cnt_go] at c4
      exact beither_step C w b e x y d h89 hl2 hx hy z1 hz1 (by omega) (btruth_ok C w b x d hP1 (by omega) (by omega) (hV x hxm d b hP (by omega) (by omega))) x1 (fun q hq => by rw [hq]; exact hx1)
        fun q hq => by rw [hq]; exact btruth_ok C w _ y d hQ2 (by omega) (by omega) (hV y hym d _ hQ (by rw [cnt_go]; omega) (by omega))
set_option maxRecDepth 100000 in
theorem bstmts_step (C : Core) (w : Bool) (b : Bd) (l : List CS) (hlen : l.length ≤ maxLen) (hS : ∀ (k : Nat) (x : CS), l[k]? = some x → ACall Try.prog 50 [.ptr 2 1 0 0, .loc x.row] (RH (bL C w (CS.buildL C w (l.take k) b)) (bFam ((CS.buildL C w (l.take k) b)).blocks)) (fun r h' => r = .tup [] ∧ HSub (putR 2 hNone (RH (bL C w (x.build C w (CS.buildL C w (l.take k) b))) (bFam ((x.build C w (CS.buildL C w (l.take k) b))).blocks))) h')) : ACall Try.prog 30 [.ptr 2 1 0 0, (.lst false (l.map CS.cells))] (RH (bL C w b) (bFam (b).blocks)) (fun r h' => r = .tup [] ∧ HSub (putR 2 hNone (RH (bL C w (CS.buildL C w l b)) (bFam ((CS.buildL C w l b)).blocks))) h') := by
 refine ACall.of_body (n := 16) tok Try.func30 rfl rfl ?_
 refine asr ?_
 refine am 5 ?_
 refine aq 6 (q_len tok rfl rfl rfl rfl rfl) ?_
 refine am 7 ?_
 refine an ?_
 refine AGo.block ?_
 refine AGo.loopK (γ := Nat) (kf 4) (fun k => ⟨16, (eput (eput (eput (eput eNew 0 (.ptr 2 1 0 0)) 1 (.lst false (l.map CS.cells))) 6 (.int .i64 ((l.map CS.cells).length : Int))) 7 (.int .i64 (k : Int))), (fam (nb [.free, .free, (.row false 6 [bCell C w (CS.buildL C w (l.take k) b)]), (.row false 5 (bRows ((CS.buildL C w (l.take k) b)).blocks))]) (bFam ((CS.buildL C w (l.take k) b)).blocks))⟩) (fun k => k ≤ l.length) (fun k => l.length - k) 0 (Sub.mk' z34q (famSub (k0 := 4) rfl (by repeat (first | exact trivial | refine ⟨⟨by first | rfl | (rw [List.take_zero, CS.buildL]; rfl), by first | rfl | exact bRows_avoid (fun x_ => kf_hi 4 x_) _⟩, ?_⟩)) (fun x_ => by rw [List.take_zero, CS.buildL]; exact fam_hi _ _ _) (fun c h1 h2 => by rcases (by omega : c = 4 ∨ c = 5 ∨ c = 6 ∨ c = 7 ∨ c = 8 ∨ c = 9 ∨ c = 10 ∨ c = 11 ∨ c = 12 ∨ c = 13 ∨ c = 14 ∨ c = 15) with rfl | rfl | rfl | rfl | rfl | rfl | rfl | rfl | rfl | rfl | rfl | rfl <;> first | rfl | (try simp only [hputs]; repeat (first | rfl | refine hput_skip (by exact beq_false_of_ne (by omega)) ?_ | refine hrm_skip (by omega) ?_))))) (Nat.zero_le _) (fun g b hb => famFree (k0 := 4) rfl hb) ?_
 intro k hk
 refine asr ?_
 refine aqb ?_
 refine an ?_
 refine AGo.seq ?_
 refine AGo.split 8 rfl (fun hb1 => ?_) (fun hb1 => ?_)
 ·
  refine act ?_
  have hkl : k < l.length := lt_of_idx hb1
  obtain ⟨x, hx⟩ := get_of_lt hkl
  have hbk := sbuildL_take (C := C) (w := w) hx b
  refine AGo.skip ?_
  refine AGo.seq ?_
  refine AGo.block ?_
  refine asr ?_
  refine am 9 ?_
  refine aa 4 ?_
  refine an ?_
  refine AGo.region ?_
  refine am 10 ?_
  refine am 11 ?_
  refine am 12 ?_
  refine aq 13 (q_index_lst tok rfl rfl rfl rfl rfl rfl (Int.natCast_nonneg _) (idxS hx) rfl) ?_
  refine AOps.call 14 (hn := putR 2 _ (RH (bL C w (x.build C w (CS.buildL C w (l.take k) b))) (bFam ((x.build C w (CS.buildL C w (l.take k) b))).blocks))) (r := .tup []) rfl rfl rfl (o_callRH 2 (bL C w (CS.buildL C w (l.take k) b)) (bL C w (x.build C w (CS.buildL C w (l.take k) b))) (bFam ((x.build C w (CS.buildL C w (l.take k) b))).blocks) rfl Try.func50 (by kernel_rfl) rfl rfl rfl rfl rfl (by decide) (bL_avoid C w _) (bL_avoid C w _) z30q z8q (fun x => bFam_avoid _ x) (fun x => bFam_avoid _ x) rfl (hS k x hx)) ?_
  refine an ?_
  refine AGo.region ?_
  refine aq 15 (q_inc rfl rfl hkl hlen) ?_
  refine am 7 ?_
  refine an ?_
  exact ⟨k+1, DropK.mk' z31q (famDrop (k0 := 4) rfl (by repeat (first | exact trivial | refine ⟨⟨by first | rfl | (rw [hbk]; first | rfl | exact putR_yes rfl), by first | rfl | exact bRows_avoid (fun x_ => kf_hi 4 x_) _⟩, ?_⟩)) (fun x_ => by rw [hbk]; (try simp only [hputs]); (try dsimp only); first | exact fam_hi _ _ _ | exact (putR_hi _ _ _ x_).trans (fam_hi _ _ _)) (fun x_ => bFam_avoid _ x_)), hkl, by omega⟩
 ·
  refine acf ?_
  have hke : k = l.length := Nat.le_antisymm hk (ge_of_idx hb1)
  refine AGo.exit ?_
  subst hke
  rw [List.take_length]
  exact ⟨[], trivial, rfl, (rh_sub rfl (by decide) z30q z8q)⟩
set_option maxRecDepth 100000 in
theorem choice1_ok (C : Core) (w : Bool) (b : Bd) (e : CS) (hT : ACall Try.prog 30 [.ptr 2 1 0 0, (.lst false (e.els.map CS.cells))] (RH (bL C w b) (bFam (b).blocks)) (fun r h' => r = .tup [] ∧ HSub (putR 2 hNone (RH (bL C w (CS.buildL C w e.els b)) (bFam ((CS.buildL C w e.els b)).blocks))) h')) : ACall Try.prog 90 ([] ++ [] ++ [.ptr 4 1 0 0, .ptr 5 1 0 0]) (RH (bL5 C w b (.row false 1 [[.ptr 2 1 0 0]]) (.row false 1 [[.loc e.row]]) .free) (bFam (b).blocks)) (fun r h' => r = .tup [] ∧ HSub (putR 5 hNone (RH (bL5 C w (CS.buildL C w e.els b) (.row false 1 [[.ptr 2 1 0 0]]) (.row false 1 [[.loc e.row]]) .free) (bFam ((CS.buildL C w e.els b)).blocks))) h') := by
 refine ACall.of_body (n := 8) tok Try.func90 rfl rfl ?_
 refine AGo.draw mix ?_
 refine dl 2 tok ?_
 refine dl 3 tok ?_
 refine dq 4 (q_nilCheck rfl rfl rfl) ?_
 refine df 5 tok ?_
 refine dl 6 tok ?_
 refine dx 7 (o_callRL C w b (CS.buildL C w e.els b) (b.blocks.length + (CS.buildL C w e.els b).blocks.length) (by omega) (by omega) rfl Try.func30 (by kernel_rfl) rfl rfl rfl z14q z2q rfl (hT)) ?_
 refine DOps.nilC clsB [([4],[]), ([5],[]), ([],[]), ([],[]), ([],[]), ([2],[2])] z9q (by kernel_rfl) ?_
 exact ⟨[], trivial, rfl, (rh_sub rfl (by decide) z14q z2q)⟩
set_option maxRecDepth 100000 in
theorem choice2_ok (C : Core) (w : Bool) (b : Bd) (e : CS) (hT : ACall Try.prog 30 [.ptr 2 1 0 0, (.lst false (e.thn.map CS.cells))] (RH (bL C w b) (bFam (b).blocks)) (fun r h' => r = .tup [] ∧ HSub (putR 2 hNone (RH (bL C w (CS.buildL C w e.thn b)) (bFam ((CS.buildL C w e.thn b)).blocks))) h')) : ACall Try.prog 91 ([] ++ [] ++ [.ptr 4 1 0 0, .ptr 5 1 0 0]) (RH (bL5 C w b (.row false 1 [[.ptr 2 1 0 0]]) (.row false 1 [[.loc e.row]]) .free) (bFam (b).blocks)) (fun r h' => r = .tup [] ∧ HSub (putR 5 hNone (RH (bL5 C w (CS.buildL C w e.thn b) (.row false 1 [[.ptr 2 1 0 0]]) (.row false 1 [[.loc e.row]]) .free) (bFam ((CS.buildL C w e.thn b)).blocks))) h') := by
 refine ACall.of_body (n := 8) tok Try.func91 rfl rfl ?_
 refine AGo.draw mix ?_
 refine dl 2 tok ?_
 refine dl 3 tok ?_
 refine dq 4 (q_nilCheck rfl rfl rfl) ?_
 refine df 5 tok ?_
 refine dl 6 tok ?_
 refine dx 7 (o_callRL C w b (CS.buildL C w e.thn b) (b.blocks.length + (CS.buildL C w e.thn b).blocks.length) (by omega) (by omega) rfl Try.func30 (by kernel_rfl) rfl rfl rfl z14q z2q rfl (hT)) ?_
 refine DOps.nilC clsB [([4],[]), ([5],[]), ([],[]), ([],[]), ([],[]), ([2],[2])] z9q (by kernel_rfl) ?_
 exact ⟨[], trivial, rfl, (rh_sub rfl (by decide) z14q z2q)⟩
set_option maxRecDepth 100000 in
theorem loop2_ok (C : Core) (w : Bool) (b : Bd) (e : CS) (hT : ACall Try.prog 30 [.ptr 2 1 0 0, (.lst false (e.thn.map CS.cells))] (RH (bL C w b) (bFam (b).blocks)) (fun r h' => r = .tup [] ∧ HSub (putR 2 hNone (RH (bL C w (CS.buildL C w e.thn b)) (bFam ((CS.buildL C w e.thn b)).blocks))) h')) : ACall Try.prog 93 ([] ++ [] ++ [.ptr 4 1 0 0, .ptr 5 1 0 0]) (RH (bL5 C w b (.row false 1 [[.ptr 2 1 0 0]]) (.row false 1 [[.loc e.row]]) .free) (bFam (b).blocks)) (fun r h' => r = .tup [] ∧ HSub (putR 5 hNone (RH (bL5 C w (CS.buildL C w e.thn b) (.row false 1 [[.ptr 2 1 0 0]]) (.row false 1 [[.loc e.row]]) .free) (bFam ((CS.buildL C w e.thn b)).blocks))) h') := by
 refine ACall.of_body (n := 8) tok Try.func93 rfl rfl ?_
 refine AGo.draw mix ?_
 refine dl 2 tok ?_
 refine dl 3 tok ?_
 refine dq 4 (q_nilCheck rfl rfl rfl) ?_
 refine df 5 tok ?_
 refine dl 6 tok ?_
 refine dx 7 (o_callRL C w b (CS.buildL C w e.thn b) (b.blocks.length + (CS.buildL C w e.thn b).blocks.length) (by omega) (by omega) rfl Try.func30 (by kernel_rfl) rfl rfl rfl z14q z2q rfl (hT)) ?_
 refine DOps.nilC clsB [([4],[]), ([5],[]), ([],[]), ([],[]), ([],[]), ([2],[2])] z9q (by kernel_rfl) ?_
 exact ⟨[], trivial, rfl, (rh_sub rfl (by decide) z14q z2q)⟩
set_option maxHeartbeats 1000000 in
set_option maxRecDepth 100000 in
theorem bstmt_step (C : Core) (w : Bool) (b : Bd) (n : Nat) (hr : CoreB C) (e : CS) (hok : e.ok C n w) (hP : Pl b) (hc : b.cnt + 11 * e.parts ≤ 70000000) (hpm : e.parts ≤ 70000000) (h4 : e.kind = 4 → ACall Try.prog 66 [.ptr 2 1 0 0, .loc e.row] (RH (bL C w b) (bFam (b).blocks)) (fun r h' => r = .tup [] ∧ HSub (putR 2 hNone (RH (bL C w (e.build C w b)) (bFam ((e.build C w b)).blocks))) h')) (h5 : e.kind = 5 → ACall Try.prog 67 [.ptr 2 1 0 0, .loc e.row] (RH (bL C w b) (bFam (b).blocks)) (fun r h' => r = .tup [] ∧ HSub (putR 2 hNone (RH (bL C w (e.build C w b)) (bFam ((e.build C w b)).blocks))) h')) : ACall Try.prog 50 [.ptr 2 1 0 0, .loc e.row] (RH (bL C w b) (bFam (b).blocks)) (fun r h' => r = .tup [] ∧ HSub (putR 2 hNone (RH (bL C w (e.build C w b)) (bFam ((e.build C w b)).blocks))) h') := by
 have hpe := sparts_es e
 refine ACall.of_body (n := 112) tok Try.func50 rfl rfl ?_
 refine asr ?_
 refine am 4 ?_
 refine aq 5 (q_nilCheck rfl rfl rfl) ?_
 refine af 6 tok ?_
 refine al 7 tok ?_
 refine an ?_
 refine AGo.block ?_
 refine asr ?_
 refine aqb ?_
 refine aa 8 ?_
 refine an ?_
 refine AGo.split 8 rfl (fun hb1 => ?_) (fun hb1 => ?_)
 ·
  refine act ?_
  have ho : e.kind = 1 := by simpa using hb1
  have hb1 := sok_1 hok ho
  obtain ⟨x, hx, hxm⟩ := get0 (l := e.es) (by omega)
  have hxo := sok_es hok hxm
  have hPx : Pl (x.build C 0 b) := (codes_expr x.parts x (Nat.le_refl _) hxo 0 b hP).pl
  obtain ⟨z, hz⟩ := hPx.cur
  have hcx := cnt_expr (C := C) x.parts x (Nat.le_refl _) 0 b
  have hpx := parts_mem hxm
  refine asr ?_
  refine am 10 ?_
  refine am 11 ?_
  refine aq 12 (q_nilCheck rfl rfl rfl) ?_
  refine af 13 tok ?_
  refine al 14 tok ?_
  refine aq 15 (q_index_lst tok rfl rfl rfl rfl rfl rfl (by decide) (idxE0 hx) rfl) ?_
  refine AOps.call 16 (hn := putR 2 _ (RH (bL C w (x.build C 0 b)) (bFam ((x.build C 0 b)).blocks))) (r := .tup []) rfl rfl rfl (o_callRH 2 (bL C w b) (bL C w (x.build C 0 b)) (bFam ((x.build C 0 b)).blocks) rfl Try.func64 (by kernel_rfl) rfl rfl rfl rfl rfl (by decide) (bL_avoid C w _) (bL_avoid C w _) z30q z8q (fun x => bFam_avoid _ x) (fun x => bFam_avoid _ x) rfl (bval_ok C w n hr x.parts x (Nat.le_refl _) hxo 0 b hP (by omega) (by omega))) ?_
  refine an ?_
  refine AGo.region ?_
  refine am 17 ?_
  refine am 18 ?_
  refine aq 19 (q_nilCheck rfl rfl rfl) ?_
  refine af 20 tok ?_
  refine al 21 tok ?_
  refine AOps.call 22 (hn := putR 2 _ (RH (bL C w ((x.build C 0 b).put (iStore e.slot 0))) (bFam (((x.build C 0 b).put (iStore e.slot 0))).blocks))) (r := .tup []) rfl rfl rfl (o_callRH 2 (bL C w (x.build C 0 b)) (bL C w ((x.build C 0 b).put (iStore e.slot 0))) (bFam (((x.build C 0 b).put (iStore e.slot 0))).blocks) rfl Try.func49 (by kernel_rfl) rfl rfl rfl rfl rfl (by decide) (bL_avoid C w _) (bL_avoid C w _) z30q z8q (fun x => bFam_avoid _ x) (fun x => bFam_avoid _ x) rfl (bstore_ok C w (x.build C 0 b) z hz (by omega) e.slot 0)) ?_
  refine an ?_
  rw [sbk1 ho hb1.1 hx]
  exact ⟨[], trivial, rfl, (rh_sub rfl (by decide) z30q z8q)⟩
 ·
  refine acf ?_
  have n1 : e.kind ≠ 1 := by simpa using hb1
  refine asr ?_
  refine aqb ?_
  refine aa 23 ?_
  refine an ?_
  refine AGo.split 23 rfl (fun hb2 => ?_) (fun hb2 => ?_)
  ·
   refine act ?_
   have ho : e.kind = 2 := by simpa using hb2
   have hb2 := sok_2 hok ho
   obtain ⟨x, hx, hxm⟩ := get0 (l := e.es) (by omega)
   have hxo := sok_es hok hxm
   have hPx : Pl (x.build C 0 b) := (codes_expr x.parts x (Nat.le_refl _) hxo 0 b hP).pl
   obtain ⟨z, hz⟩ := hPx.cur
   have hcx := cnt_expr (C := C) x.parts x (Nat.le_refl _) 0 b
   have hpx := parts_mem hxm
   obtain ⟨y, hy, hym⟩ := get1 (l := e.es) (by omega)
   have hyo := sok_es hok hym
   have hps : CE.partsL e.es = x.parts + y.parts := by rw [kids_two hb2.1 hx hy, CE.partsL, CE.partsL, CE.partsL]; omega
   obtain ⟨z2, hz2⟩ := (codes_expr y.parts y (Nat.le_refl _) hyo 1 _ hPx).pl.cur
   have hcy := cnt_expr (C := C) y.parts y (Nat.le_refl _) 1 (x.build C 0 b)
   refine asr ?_
   refine am 25 ?_
   refine am 26 ?_
   refine aq 27 (q_nilCheck rfl rfl rfl) ?_
   refine af 28 tok ?_
   refine al 29 tok ?_
   refine aq 30 (q_index_lst tok rfl rfl rfl rfl rfl rfl (by decide) (idxE0 hx) rfl) ?_
   refine AOps.call 31 (hn := putR 2 _ (RH (bL C w (x.build C 0 b)) (bFam ((x.build C 0 b)).blocks))) (r := .tup []) rfl rfl rfl (o_callRH 2 (bL C w b) (bL C w (x.build C 0 b)) (bFam ((x.build C 0 b)).blocks) rfl Try.func64 (by kernel_rfl) rfl rfl rfl rfl rfl (by decide) (bL_avoid C w _) (bL_avoid C w _) z30q z8q (fun x => bFam_avoid _ x) (fun x => bFam_avoid _ x) rfl (bval_ok C w n hr x.parts x (Nat.le_refl _) hxo 0 b hP (by omega) (by omega))) ?_
   refine an ?_
   refine asr ?_
   refine am 32 ?_
   refine am 33 ?_
   refine aq 34 (q_nilCheck rfl rfl rfl) ?_
   refine af 35 tok ?_
   refine al 36 tok ?_
   refine aq 37 (q_index_lst tok rfl rfl rfl rfl rfl rfl (by decide) (idxE1 hy) rfl) ?_
   refine AOps.call 38 (hn := putR 2 _ (RH (bL C w (y.build C 1 (x.build C 0 b))) (bFam ((y.build C 1 (x.build C 0 b))).blocks))) (r := .tup []) rfl rfl rfl (o_callRH 2 (bL C w (x.build C 0 b)) (bL C w (y.build C 1 (x.build C 0 b))) (bFam ((y.build C 1 (x.build C 0 b))).blocks) rfl Try.func64 (by kernel_rfl) rfl rfl rfl rfl rfl (by decide) (bL_avoid C w _) (bL_avoid C w _) z30q z8q (fun x => bFam_avoid _ x) (fun x => bFam_avoid _ x) rfl (bval_ok C w n hr y.parts y (Nat.le_refl _) hyo 1 _ hPx (by omega) (by omega))) ?_
   refine an ?_
   refine AGo.draw mix ?_
   refine dm 39 ?_
   refine dm 40 ?_
   refine dq 41 (q_nilCheck rfl rfl rfl) ?_
   refine df 42 tok ?_
   refine dl 43 tok ?_
   refine dm 44 ?_
   refine dq 45 (q_nilCheck rfl rfl rfl) ?_
   refine df 46 tok ?_
   refine dl 47 tok ?_
   refine dq 48 (q_build tok rfl rfl rfl rfl rfl (by decide) rfl rfl rfl) ?_
   refine dx 49 (o_callRL C w (y.build C 1 (x.build C 0 b)) ((y.build C 1 (x.build C 0 b)).put (iAStore 0 1 e.slot e.size)) ((y.build C 1 (x.build C 0 b)).blocks.length + ((y.build C 1 (x.build C 0 b)).put (iAStore 0 1 e.slot e.size)).blocks.length) (by omega) (by omega) rfl Try.func46 (by kernel_rfl) rfl rfl rfl z14q z2q rfl (bput_ok C w (y.build C 1 (x.build C 0 b)) z2 hz2 (iAStore 0 1 e.slot e.size) (Int.le_refl 0) (show (0 : Int) ≤ 1000000000 by decide) (by have := cnt_ins hz2; omega))) ?_
   refine DOps.nilC clsB [([],[]), ([],[]), ([],[]), ([],[]), ([],[]), ([],[]), ([],[]), ([],[]), ([],[]), ([],[]), ([2],[2])] z9q (by kernel_rfl) ?_
   rw [sbk2 ho hb2.1 hx hy]
   exact ⟨[], trivial, rfl, (rh_sub rfl (by decide) z14q z2q)⟩
  ·
   refine acf ?_
   have n2 : e.kind ≠ 2 := by simpa using hb2
   refine asr ?_
   refine aqb ?_
   refine aa 50 ?_
   refine an ?_
   refine AGo.split 50 rfl (fun hb3 => ?_) (fun hb3 => ?_)
   ·
    refine act ?_
    have ho : e.kind = 3 := by simpa using hb3
    have hb3 := sok_3 hok (.inl ho)
    obtain ⟨x, hx, hxm⟩ := get0 (l := e.es) (by omega)
    have hxo := sok_es hok hxm
    have hPx : Pl (x.build C 0 b) := (codes_expr x.parts x (Nat.le_refl _) hxo 0 b hP).pl
    obtain ⟨z, hz⟩ := hPx.cur
    have hcx := cnt_expr (C := C) x.parts x (Nat.le_refl _) 0 b
    have hpx := parts_mem hxm
    refine asr ?_;refine am 52 ?_;refine am 53 ?_;refine aq 54 (q_nilCheck rfl rfl rfl) ?_;refine af 55 tok ?_;refine al 56 tok ?_;refine aq 57 (q_index_lst tok rfl rfl rfl rfl rfl rfl (by decide) (idxE0 hx) rfl) ?_;refine AOps.call 58 (hn := putR 2 _ (RH (bL C w (x.build C 0 b)) (bFam ((x.build C 0 b)).blocks))) (r := .tup []) rfl rfl rfl (o_callRH 2 (bL C w b) (bL C w (x.build C 0 b)) (bFam ((x.build C 0 b)).blocks) rfl Try.func64 (by kernel_rfl) rfl rfl rfl rfl rfl (by decide) (bL_avoid C w _) (bL_avoid C w _) z30q z8q (fun x => bFam_avoid _ x) (fun x => bFam_avoid _ x) rfl (bval_ok C w n hr x.parts x (Nat.le_refl _) hxo 0 b hP (by omega) (by omega))) ?_;refine an ?_;refine AGo.region ?_;refine am 59 ?_;refine aq 60 (q_build tok rfl rfl rfl rfl rfl (by decide) rfl rfl rfl) ?_;refine AOps.call 61 (hn := putR 2 _ (RH (bL C w ((x.build C 0 b).put (iPut 0))) (bFam (((x.build C 0 b).put (iPut 0))).blocks))) (r := .tup []) rfl rfl rfl (o_callRH 2 (bL C w (x.build C 0 b)) (bL C w ((x.build C 0 b).put (iPut 0))) (bFam (((x.build C 0 b).put (iPut 0))).blocks) rfl Try.func46 (by kernel_rfl) rfl rfl rfl rfl rfl (by decide) (bL_avoid C w _) (bL_avoid C w _) z30q z8q (fun x => bFam_avoid _ x) (fun x => bFam_avoid _ x) rfl (bput_ok C w (x.build C 0 b) z hz (iPut 0) (Int.le_refl 0) (show (0 : Int) ≤ 1000000000 by decide) (by have := cnt_ins hz; omega))) ?_
    refine an ?_
    rw [sbk3 ho hb3 hx]
    exact ⟨[], trivial, rfl, (rh_sub rfl (by decide) z30q z8q)⟩
   ·
    refine acf ?_
    have n3 : e.kind ≠ 3 := by simpa using hb3
    refine asr ?_;refine aqb ?_;refine aa 62 ?_;refine an ?_;refine AGo.split 62 rfl (fun hb4 => ?_) (fun hb4 => ?_)
    ·
     refine act ?_
     have ho : e.kind = 6 := by simpa using hb4
     have hb6 := sok_6 hok ho
     obtain ⟨gf, hb6b⟩ := hb6.2.2
     have hlen := partsL_len e.es
     refine AGo.draw mix ?_;refine dm 64 ?_;refine dm 65 ?_;refine dq 66 (q_nilCheck rfl rfl rfl) ?_;refine df 67 tok ?_;refine dl 68 tok ?_;refine dm 69 ?_;refine dq 70 (q_nilCheck rfl rfl rfl) ?_;refine df 71 tok ?_;refine dl 72 tok ?_;refine dx 73 (o_callRL C w b ((CE.buildL C e.es 0 b).called C e.slot e.es.length 0) (b.blocks.length + ((CE.buildL C e.es 0 b).called C e.slot e.es.length 0).blocks.length) (by omega) (by omega) rfl Try.func65 (by kernel_rfl) rfl rfl rfl z14q z2q rfl (bcall_ok C w n hr (d := 0) hb6.1 hb6b.1 hb6b.2.2.2 (sok_esL hok) hP (by omega) (by omega) (fun x hx => bval_ok C w n hr x.parts x (Nat.le_refl _) (sok_es hok hx)))) ?_;refine DOps.nilC clsB [([],[]), ([],[]), ([],[]), ([],[]), ([],[]), ([],[]), ([],[]), ([],[]), ([],[]), ([2],[2])] z9q (by kernel_rfl) ?_
     rw [sbk6 ho]
     exact ⟨[], trivial, rfl, (rh_sub rfl (by decide) z14q z2q)⟩
    ·
     refine acf ?_
     have n6 : e.kind ≠ 6 := by simpa using hb4
     refine asr ?_;refine aqb ?_;refine aa 74 ?_;refine an ?_;refine AGo.split 74 rfl (fun hb5 => ?_) (fun hb5 => ?_)
     ·
      refine act ?_
      have ho : e.kind = 7 := by simpa using hb5
      have hb7 := sok_7 hok ho
      obtain ⟨z0, hz0⟩ := hP.cur
      refine AGo.seq ?_;refine asr ?_;refine am 76 ?_;refine aq 77 (q_nilCheck rfl rfl rfl) ?_;refine af 78 tok ?_;refine al 79 tok ?_;refine aq 80 (q_len tok rfl rfl rfl rfl rfl) ?_;refine aqb ?_;refine an ?_;refine AGo.join (γ := Bd) (fun q => ⟨112, (eput eNew 0 (.ptr 2 1 0 0)), (putR 2 hNone (RH (bL C w q) (bFam q.blocks)))⟩) (fun q => q.next = e.build C w b ∧ q.cnt ≤ 80000000) ?_ ?_
      ·
       refine AGo.split 81 rfl (fun hb6 => ?_) (fun hb6 => ?_)
       ·
        refine act ?_
        have hl1 : e.es.length = 1 := by have h := hb6; simp at h; omega
        obtain ⟨x, hx, hxm⟩ := get0 (l := e.es) (by omega)
        have hxo := sok_es hok hxm
        have hPx : Pl (x.build C 0 b) := (codes_expr x.parts x (Nat.le_refl _) hxo 0 b hP).pl
        obtain ⟨z, hz⟩ := hPx.cur
        have hcx := cnt_expr (C := C) x.parts x (Nat.le_refl _) 0 b
        have hpx := parts_mem hxm
        refine asr ?_;refine am 82 ?_;refine am 83 ?_;refine aq 84 (q_nilCheck rfl rfl rfl) ?_;refine af 85 tok ?_;refine al 86 tok ?_;refine aq 87 (q_index_lst tok rfl rfl rfl rfl rfl rfl (by decide) (idxE0 hx) rfl) ?_;refine AOps.call 88 (hn := putR 2 _ (RH (bL C w (x.build C 0 b)) (bFam ((x.build C 0 b)).blocks))) (r := .tup []) rfl rfl rfl (o_callRH 2 (bL C w b) (bL C w (x.build C 0 b)) (bFam ((x.build C 0 b)).blocks) rfl Try.func64 (by kernel_rfl) rfl rfl rfl rfl rfl (by decide) (bL_avoid C w _) (bL_avoid C w _) z30q z8q (fun x => bFam_avoid _ x) (fun x => bFam_avoid _ x) rfl (bval_ok C w n hr x.parts x (Nat.le_refl _) hxo 0 b hP (by omega) (by omega))) ?_;refine an ?_;refine AGo.region ?_;refine am 89 ?_;refine am 90 ?_;refine aq 91 (q_nilCheck rfl rfl rfl) ?_;refine af 92 tok ?_;refine al 93 tok ?_;refine AOps.call 94 (hn := putR 2 _ (RH (bL C w ((x.build C 0 b).put (iStore C.words 0))) (bFam (((x.build C 0 b).put (iStore C.words 0))).blocks))) (r := .tup []) rfl rfl rfl (o_callRH 2 (bL C w (x.build C 0 b)) (bL C w ((x.build C 0 b).put (iStore C.words 0))) (bFam (((x.build C 0 b).put (iStore C.words 0))).blocks) rfl Try.func49 (by kernel_rfl) rfl rfl rfl rfl rfl (by decide) (bL_avoid C w _) (bL_avoid C w _) z30q z8q (fun x => bFam_avoid _ x) (fun x => bFam_avoid _ x) rfl (bstore_ok C w (x.build C 0 b) z hz (by omega) C.words 0)) ?_
        refine an ?_;exact ⟨((x.build C 0 b).put (iStore C.words 0)), Sub.mk' z34q (rh_sub rfl (by decide) z30q z8q), ⟨(sbk7a ho hl1 hx).symm, by have := cnt_put_le (x.build C 0 b) (iStore C.words 0); omega⟩⟩
       ·
        refine acf ?_
        have hl0 : e.es.length = 0 := by have h := hb6; simp at h; simp [h]
        refine AGo.region ?_;refine am 95 ?_;refine AOps.call 96 (hn := putR 2 _ (RH (bL C w (b.leave C w)) (bFam ((b.leave C w)).blocks))) (r := .tup []) rfl rfl rfl (o_callRH 2 (bL C w b) (bL C w (b.leave C w)) (bFam ((b.leave C w)).blocks) rfl Try.func31 (by kernel_rfl) rfl rfl rfl rfl rfl (by decide) (bL_avoid C w _) (bL_avoid C w _) z30q z8q (fun x => bFam_avoid _ x) (fun x => bFam_avoid _ x) rfl (bleave_ok C w b z0 hz0 (by omega))) ?_;refine an ?_;exact ⟨(b.leave C w), Sub.mk' z34q (rh_sub rfl (by decide) z30q z8q), ⟨(sbk7b ho hl0).symm, by have := cnt_leave b C w; omega⟩⟩
      intro q hQ
      refine AGo.region ?_;refine am 97 ?_;refine am 98 ?_;refine AOps.call 99 (hn := putR 2 _ (RH (bL C w q.opened) (bFam (q.opened).blocks))) (r := .int .i64 (q.blocks.length : Int)) rfl rfl rfl (o_callRH 2 (bL C w q) (bL C w q.opened) (bFam (q.opened).blocks) rfl Try.func28 (by kernel_rfl) rfl rfl rfl rfl rfl (by decide) (bL_avoid C w _) (bL_avoid C w _) z30q z8q (fun x => bFam_avoid _ x) (fun x => bFam_avoid _ x) rfl (bopen_ok C w q (by have := cnt_len q; omega))) ?_;refine aq 100 (q_nilCheck rfl rfl rfl) ?_;refine af 101 tok ?_;refine AOps.w rfl rfl (o_store tok rfl rfl rfl rfl rfl rfl rfl rfl rfl (by decide) rfl z40q) ?_;refine an ?_
      rw [← hQ.1]
      exact ⟨[], trivial, rfl, (rh_sub rfl (by decide) z30q z8q)⟩
     ·
      refine acf ?_
      have n7 : e.kind ≠ 7 := by simpa using hb5
      refine asr ?_;refine aqb ?_;refine aa 102 ?_;refine an ?_;refine AGo.split 102 rfl (fun hb7 => ?_) (fun hb7 => ?_)
      ·
       refine act ?_
       have ho : e.kind = 4 := by simpa using hb7
       refine AGo.region ?_;refine am 104 ?_;refine am 105 ?_;refine AOps.call 106 (hn := putR 2 _ (RH (bL C w (e.build C w b)) (bFam ((e.build C w b)).blocks))) (r := .tup []) rfl rfl rfl (o_callRH 2 (bL C w b) (bL C w (e.build C w b)) (bFam ((e.build C w b)).blocks) rfl Try.func66 (by kernel_rfl) rfl rfl rfl rfl rfl (by decide) (bL_avoid C w _) (bL_avoid C w _) z30q z8q (fun x => bFam_avoid _ x) (fun x => bFam_avoid _ x) rfl (h4 ho)) ?_;refine an ?_;exact ⟨[], trivial, rfl, (rh_sub rfl (by decide) z30q z8q)⟩
      ·
       refine acf ?_
       have n4 : e.kind ≠ 4 := by simpa using hb7
       refine asr ?_;refine aqb ?_;refine aa 107 ?_;refine an ?_;refine AGo.split 107 rfl (fun hb8 => ?_) (fun hb8 => ?_)
       ·
        refine act ?_
        have ho : e.kind = 5 := by simpa using hb8
        refine AGo.region ?_;refine am 109 ?_;refine am 110 ?_;refine AOps.call 111 (hn := putR 2 _ (RH (bL C w (e.build C w b)) (bFam ((e.build C w b)).blocks))) (r := .tup []) rfl rfl rfl (o_callRH 2 (bL C w b) (bL C w (e.build C w b)) (bFam ((e.build C w b)).blocks) rfl Try.func67 (by kernel_rfl) rfl rfl rfl rfl rfl (by decide) (bL_avoid C w _) (bL_avoid C w _) z30q z8q (fun x => bFam_avoid _ x) (fun x => bFam_avoid _ x) rfl (h5 ho)) ?_;refine an ?_;exact ⟨[], trivial, rfl, (rh_sub rfl (by decide) z30q z8q)⟩
       ·
        refine acf ?_
        have n5 : e.kind ≠ 5 := by simpa using hb8
        refine AGo.skip ?_;exact absurd (sok_K hok n5 n6 n7).2 (by omega)
set_option maxHeartbeats 1000000 in
set_option maxRecDepth 100000 in
theorem bchoice_step (C : Core) (w : Bool) (b : Bd) (e : CS) (x : CE) (hk : e.kind = 4) (hl : e.es.length = 1) (hx : e.es[0]? = some x) (hc : (x.build C 0 b).cnt ≤ 80000000) (hV : ACall Try.prog 64 [.ptr 2 1 0 0, .loc x.row, .int .i64 ((0 : Nat) : Int)] (RH (bL C w b) (bFam (b).blocks)) (fun r h' => r = .tup [] ∧ HSub (putR 2 hNone (RH (bL C w (x.build C 0 b)) (bFam ((x.build C 0 b)).blocks))) h')) (hEc : (CS.buildL C w e.els (((x.build C 0 b).opened.opened.opened).go ((x.build C 0 b).blocks.length + 2))).cnt ≤ 80000000) (xe : Block) (hxe : e.els ≠ [] → (CS.buildL C w e.els (((x.build C 0 b).opened.opened.opened).go ((x.build C 0 b).blocks.length + 2))).blocks[(CS.buildL C w e.els (((x.build C 0 b).opened.opened.opened).go ((x.build C 0 b).blocks.length + 2))).now]? = some xe) (hEls : e.els ≠ [] → ACall Try.prog 30 [.ptr 2 1 0 0, (.lst false (e.els.map CS.cells))] (RH (bL C w (((x.build C 0 b).opened.opened.opened).go ((x.build C 0 b).blocks.length + 2))) (bFam ((((x.build C 0 b).opened.opened.opened).go ((x.build C 0 b).blocks.length + 2))).blocks)) (fun r h' => r = .tup [] ∧ HSub (putR 2 hNone (RH (bL C w (CS.buildL C w e.els (((x.build C 0 b).opened.opened.opened).go ((x.build C 0 b).blocks.length + 2)))) (bFam ((CS.buildL C w e.els (((x.build C 0 b).opened.opened.opened).go ((x.build C 0 b).blocks.length + 2)))).blocks))) h'))
    (zq : Block) (hzq : ∀ q, q = elseB C w e.els (x.build C 0 b) → q.blocks[q.now]? = some zq) (xt : Block) (hxt : ∀ q, q = elseB C w e.els (x.build C 0 b) → (CS.buildL C w e.thn ((q.fork 0 (x.build C 0 b).blocks.length (elseN e.els (x.build C 0 b))).go (x.build C 0 b).blocks.length)).blocks[(CS.buildL C w e.thn ((q.fork 0 (x.build C 0 b).blocks.length (elseN e.els (x.build C 0 b))).go (x.build C 0 b).blocks.length)).now]? = some xt) (hThn : ∀ q, q = elseB C w e.els (x.build C 0 b) → ACall Try.prog 30 [.ptr 2 1 0 0, (.lst false (e.thn.map CS.cells))] (RH (bL C w ((q.fork 0 (x.build C 0 b).blocks.length (elseN e.els (x.build C 0 b))).go (x.build C 0 b).blocks.length)) (bFam (((q.fork 0 (x.build C 0 b).blocks.length (elseN e.els (x.build C 0 b))).go (x.build C 0 b).blocks.length)).blocks)) (fun r h' => r = .tup [] ∧ HSub (putR 2 hNone (RH (bL C w (CS.buildL C w e.thn ((q.fork 0 (x.build C 0 b).blocks.length (elseN e.els (x.build C 0 b))).go (x.build C 0 b).blocks.length))) (bFam ((CS.buildL C w e.thn ((q.fork 0 (x.build C 0 b).blocks.length (elseN e.els (x.build C 0 b))).go (x.build C 0 b).blocks.length))).blocks))) h')) : ACall Try.prog 66 [.ptr 2 1 0 0, .loc e.row] (RH (bL C w b) (bFam (b).blocks)) (fun r h' => r = .tup [] ∧ HSub (putR 2 hNone (RH (bL C w (e.build C w b)) (bFam ((e.build C w b)).blocks))) h') := by
 have hO : Ext (.row false 1 [[.ptr 2 1 0 0]]) (.row false 1 [[.loc e.row]]) .free := ⟨⟨rfl, rfl, rfl⟩, rfl, rfl, rfl⟩
 have hlo := cnt_len (x.build C 0 b)
 have hol := opened_len (x.build C 0 b)
 have hol2 := opened_len ((x.build C 0 b).opened)
 refine ACall.of_body (n := 45) tok Try.func66 rfl rfl ?_
 refine asr ?_
 refine ax 2 (o_box (sz := 1) 4 rfl rfl rfl rfl (Nat.zero_lt_succ _) rfl) ?_
 refine ax 3 (o_box (sz := 1) 5 rfl rfl rfl rfl (Nat.zero_lt_succ _) rfl) ?_
 refine an ?_
 refine AGo.seq ?_
 refine AGo.draw mix ?_
 refine dl 7 tok ?_
 refine dl 8 tok ?_
 refine dq 9 (q_nilCheck rfl rfl rfl) ?_
 refine df 10 tok ?_
 refine dl 11 tok ?_
 refine dq 12 (q_index_lst tok rfl rfl rfl rfl rfl rfl (by decide) (idxE0 hx) rfl) ?_
 refine dx 13 (o_callRL C w b (x.build C 0 b) (b.blocks.length + (x.build C 0 b).blocks.length) (by omega) (by omega) rfl Try.func64 (by kernel_rfl) rfl rfl rfl z14q z2q rfl (hV)) ?_
 refine DOps.nilC clsB [([4],[]), ([5],[]), ([],[]), ([],[]), ([],[]), ([],[]), ([2],[2])] z9q (by kernel_rfl) ?_
 refine AGo.seq ?_
 refine AGo.sub (s' := ⟨45, (eput (eput eNew 2 (.ptr 4 1 0 0)) 3 (.ptr 5 1 0 0)), (putR 5 hNone (RH (bL5 C w (x.build C 0 b) (.row false 1 [[.ptr 2 1 0 0]]) (.row false 1 [[.loc e.row]]) .free) (bFam ((x.build C 0 b)).blocks)))⟩) (Sub.mk' z34q (rh_sub rfl (by decide) z14q z2q)) ?_
 refine AGo.draw mix ?_
 refine dl 14 tok ?_
 refine dx 15 (o_callRL C w (x.build C 0 b) ((x.build C 0 b).opened) ((x.build C 0 b).blocks.length + ((x.build C 0 b).opened).blocks.length) (by omega) (by omega) rfl Try.func28 (by kernel_rfl) rfl rfl rfl z14q z2q rfl (bopen_ok C w _ (by omega))) ?_
 refine dq 16 (q_load tok rfl rfl rfl (.ptr _ _ _ _ _ _ _ _ ((rW_lo (by decide)).trans rfl) rfl rfl) rfl) ?_
 refine dx 17 (o_callRL C w ((x.build C 0 b).opened) ((x.build C 0 b).opened.opened) (((x.build C 0 b).opened).blocks.length + ((x.build C 0 b).opened.opened).blocks.length) (by omega) (by omega) rfl Try.func28 (by kernel_rfl) rfl rfl rfl z14q z2q rfl (bopen_ok C w _ (by omega))) ?_
 refine da 4 ?_
 refine da 5 ?_
 refine DOps.nilC clsB [([4],[]), ([2],[2]), ([4],[]), ([2],[2]), ([],[]), ([],[])] z9q (by kernel_rfl) ?_
 refine AGo.seq ?_
 refine AGo.sub (s' := ⟨45, (eput (eput (eput (eput eNew 2 (.ptr 4 1 0 0)) 3 (.ptr 5 1 0 0)) 4 (.int .i64 ((x.build C 0 b).blocks.length : Int))) 5 (.int .i64 (((x.build C 0 b).blocks.length + 1 : Nat) : Int))), (putR 5 hNone (RH (bL5 C w ((x.build C 0 b).opened.opened) (.row false 1 [[.ptr 2 1 0 0]]) (.row false 1 [[.loc e.row]]) .free) (bFam (((x.build C 0 b).opened.opened)).blocks)))⟩) (Sub.mk' (by repeat (first | exact ESub.new _ | refine ESub.put ?_ (by first | rfl | (rw [← hol]; rfl)))) (rh_sub rfl (by decide) z14q z2q)) ?_
 refine AGo.region ?_
 refine am 18 ?_
 refine aa 6 ?_
 refine an ?_
 refine AGo.seq ?_
 refine asr ?_
 refine al 19 tok ?_
 refine aq 20 (q_nilCheck rfl rfl rfl) ?_
 refine af 21 tok ?_
 refine al 22 tok ?_
 refine aq 23 (q_len tok rfl rfl rfl rfl rfl) ?_
 refine aqb ?_
 refine an ?_
 refine AGo.join (γ := Bd) (fun q => ⟨45, (eput (eput (eput (eput (eput eNew 2 (.ptr 4 1 0 0)) 3 (.ptr 5 1 0 0)) 4 (.int .i64 ((x.build C 0 b).blocks.length : Int))) 5 (.int .i64 (((x.build C 0 b).blocks.length + 1 : Nat) : Int))) 6 (.int .i64 ((elseN e.els (x.build C 0 b) : Nat) : Int))), (putR 5 hNone (RH (bL5 C w q (.row false 1 [[.ptr 2 1 0 0]]) (.row false 1 [[.loc e.row]]) .free) (bFam (q).blocks)))⟩) (fun q => q = elseB C w e.els (x.build C 0 b)) ?_ ?_
 ·
  refine AGo.split 24 rfl (fun hb1 => ?_) (fun hb1 => ?_)
  ·
   refine act ?_
   have hne : e.els ≠ [] := by have h := hb1; simp at h; intro e0; rw [e0] at h; simp at h
   refine asr ?_
   refine al 25 tok ?_
   refine AOps.call 26 (hn := putR 2 _ (RH (bL C w ((x.build C 0 b).opened.opened.opened)) (bFam (((x.build C 0 b).opened.opened.opened)).blocks))) (r := .int .i64 (((x.build C 0 b).opened.opened).blocks.length : Int)) rfl rfl rfl (o_callRH 2 (bL C w ((x.build C 0 b).opened.opened)) (bL C w ((x.build C 0 b).opened.opened.opened)) (bFam (((x.build C 0 b).opened.opened.opened)).blocks) rfl Try.func28 (by kernel_rfl) rfl rfl rfl rfl rfl (by decide) (bL_avoid C w _) (bL_avoid C w _) z14q z2q (fun x => bFam_avoid _ x) (fun x => bFam_avoid _ x) rfl (bopen_ok C w _ (by omega))) ?_
   refine aa 6 ?_
   refine an ?_
   refine AGo.sub (s' := ⟨45, (eput (eput (eput (eput (eput eNew 2 (.ptr 4 1 0 0)) 3 (.ptr 5 1 0 0)) 4 (.int .i64 ((x.build C 0 b).blocks.length : Int))) 5 (.int .i64 (((x.build C 0 b).blocks.length + 1 : Nat) : Int))) 6 (.int .i64 (((x.build C 0 b).blocks.length + 2 : Nat) : Int))), (putR 5 hNone (RH (bL5 C w ((x.build C 0 b).opened.opened.opened) (.row false 1 [[.ptr 2 1 0 0]]) (.row false 1 [[.loc e.row]]) .free) (bFam (((x.build C 0 b).opened.opened.opened)).blocks)))⟩) (Sub.mk' (by repeat (first | exact ESub.new _ | refine ESub.put ?_ (by first | rfl | exact congrArg (fun n : Nat => some (AV.int .i64 (n : Int))) (show ((x.build C 0 b).opened.opened).blocks.length = (x.build C 0 b).blocks.length + 2 by omega)))) (rh_sub rfl (by decide) z14q z2q)) ?_
   refine AGo.region ?_
   refine al 27 tok ?_
   refine am 28 ?_
   refine am 29 ?_
   refine aq 30 (q_makeFunc rfl rfl rfl) ?_
   have hnn : ((x.build C 0 b).opened.opened).blocks.length = (x.build C 0 b).blocks.length + 2 := by omega
   refine AOps.call 31 (hn := putR 5 _ (RH (bL5 C w (((CS.buildL C w e.els (((x.build C 0 b).opened.opened.opened).go ((x.build C 0 b).blocks.length + 2))).jump ((x.build C 0 b).blocks.length + 1)).go (((x.build C 0 b).opened.opened.opened)).now) (.row false 1 [[.ptr 2 1 0 0]]) (.row false 1 [[.loc e.row]]) .free) (bFam (((CS.buildL C w e.els (((x.build C 0 b).opened.opened.opened).go ((x.build C 0 b).blocks.length + 2))).jump ((x.build C 0 b).blocks.length + 1))).blocks))) (r := .tup []) rfl rfl rfl (o_callRH 5 (bL5 C w (((x.build C 0 b).opened.opened.opened)) (.row false 1 [[.ptr 2 1 0 0]]) (.row false 1 [[.loc e.row]]) .free) (bL5 C w (((CS.buildL C w e.els (((x.build C 0 b).opened.opened.opened).go ((x.build C 0 b).blocks.length + 2))).jump ((x.build C 0 b).blocks.length + 1)).go (((x.build C 0 b).opened.opened.opened)).now) (.row false 1 [[.ptr 2 1 0 0]]) (.row false 1 [[.loc e.row]]) .free) (bFam ((CS.buildL C w e.els (((x.build C 0 b).opened.opened.opened).go ((x.build C 0 b).blocks.length + 2))).jump ((x.build C 0 b).blocks.length + 1)).blocks) rfl Try.func89 (by kernel_rfl) rfl rfl rfl rfl rfl (by decide) (bL5_avoid C w _ hO) (bL5_avoid C w _ hO) z14q z2q (fun x => bFam_avoid _ x) (fun x => bFam_avoid _ x) rfl (binside_ok C w (((x.build C 0 b).opened.opened.opened)) (.row false 1 [[.ptr 2 1 0 0]]) (.row false 1 [[.loc e.row]]) .free hO ((x.build C 0 b).blocks.length + 2) (((x.build C 0 b).blocks.length + 1)) 90 _ Try.func90 (by kernel_rfl) rfl [.ptr 4 1 0 0, .ptr 5 1 0 0] rfl (CS.buildL C w e.els (((x.build C 0 b).opened.opened.opened).go ((x.build C 0 b).blocks.length + 2))) xe (hxe hne) (choice1_ok C w _ e (hEls hne)))) ?_
   refine an ?_
   exact ⟨(((CS.buildL C w e.els (((x.build C 0 b).opened.opened.opened).go ((x.build C 0 b).blocks.length + 2))).jump ((x.build C 0 b).blocks.length + 1)).go ((x.build C 0 b).opened.opened.opened).now), Sub.mk' (by repeat (first | exact ESub.new _ | refine ESub.put ?_ (by first | rfl | (unfold elseN; rw [if_neg hne]; rfl) | (unfold elseN; rw [if_pos he0]; rfl)))) (rh_sub rfl (by decide) z14q z2q), (by unfold elseB; rw [if_neg hne]; rfl)⟩
  ·
   refine acf ?_
   have he0 : e.els = [] := by have h := hb1; simp at h; first | exact h | exact List.length_eq_zero_iff.1 (by omega)
   refine AGo.skip ?_
   exact ⟨((x.build C 0 b).opened.opened), Sub.mk' (by repeat (first | exact ESub.new _ | refine ESub.put ?_ (by first | rfl | (unfold elseN; rw [if_neg hne]; rfl) | (unfold elseN; rw [if_pos he0]; rfl)))) (rh_sub rfl (by decide) z14q z2q), (by unfold elseB; rw [if_pos he0])⟩
 intro q hq
 have hzq2 := hzq q hq
 have hxt2 := hxt q hq
 have hThn2 := hThn q hq
 refine asr ?_
 refine al 32 tok ?_
 refine am 33 ?_
 refine am 34 ?_
 refine AOps.call 35 (hn := putR 2 _ (RH (bL C w (q.fork 0 (x.build C 0 b).blocks.length (elseN e.els (x.build C 0 b)))) (bFam ((q.fork 0 (x.build C 0 b).blocks.length (elseN e.els (x.build C 0 b)))).blocks))) (r := .tup []) rfl rfl rfl (o_callRH 2 (bL C w q) (bL C w (q.fork 0 (x.build C 0 b).blocks.length (elseN e.els (x.build C 0 b)))) (bFam ((q.fork 0 (x.build C 0 b).blocks.length (elseN e.els (x.build C 0 b)))).blocks) rfl Try.func48 (by kernel_rfl) rfl rfl rfl rfl rfl (by decide) (bL_avoid C w _) (bL_avoid C w _) z14q z2q (fun x => bFam_avoid _ x) (fun x => bFam_avoid _ x) rfl (bfork_ok C w q zq hzq2 0 (x.build C 0 b).blocks.length (elseN e.els (x.build C 0 b)))) ?_
 refine an ?_
 refine asr ?_
 refine al 36 tok ?_
 refine am 37 ?_
 refine am 38 ?_
 refine aq 39 (q_makeFunc rfl rfl rfl) ?_
 refine AOps.call 40 (hn := putR 5 _ (RH (bL5 C w (((CS.buildL C w e.thn ((q.fork 0 (x.build C 0 b).blocks.length (elseN e.els (x.build C 0 b))).go (x.build C 0 b).blocks.length)).jump ((x.build C 0 b).blocks.length + 1)).go ((q.fork 0 (x.build C 0 b).blocks.length (elseN e.els (x.build C 0 b)))).now) (.row false 1 [[.ptr 2 1 0 0]]) (.row false 1 [[.loc e.row]]) .free) (bFam (((CS.buildL C w e.thn ((q.fork 0 (x.build C 0 b).blocks.length (elseN e.els (x.build C 0 b))).go (x.build C 0 b).blocks.length)).jump ((x.build C 0 b).blocks.length + 1))).blocks))) (r := .tup []) rfl rfl rfl (o_callRH 5 (bL5 C w ((q.fork 0 (x.build C 0 b).blocks.length (elseN e.els (x.build C 0 b)))) (.row false 1 [[.ptr 2 1 0 0]]) (.row false 1 [[.loc e.row]]) .free) (bL5 C w (((CS.buildL C w e.thn ((q.fork 0 (x.build C 0 b).blocks.length (elseN e.els (x.build C 0 b))).go (x.build C 0 b).blocks.length)).jump ((x.build C 0 b).blocks.length + 1)).go ((q.fork 0 (x.build C 0 b).blocks.length (elseN e.els (x.build C 0 b)))).now) (.row false 1 [[.ptr 2 1 0 0]]) (.row false 1 [[.loc e.row]]) .free) (bFam ((CS.buildL C w e.thn ((q.fork 0 (x.build C 0 b).blocks.length (elseN e.els (x.build C 0 b))).go (x.build C 0 b).blocks.length)).jump ((x.build C 0 b).blocks.length + 1)).blocks) rfl Try.func89 (by kernel_rfl) rfl rfl rfl rfl rfl (by decide) (bL5_avoid C w _ hO) (bL5_avoid C w _ hO) z14q z2q (fun x => bFam_avoid _ x) (fun x => bFam_avoid _ x) rfl (binside_ok C w ((q.fork 0 (x.build C 0 b).blocks.length (elseN e.els (x.build C 0 b)))) (.row false 1 [[.ptr 2 1 0 0]]) (.row false 1 [[.loc e.row]]) .free hO ((x.build C 0 b).blocks.length) (((x.build C 0 b).blocks.length + 1)) 91 _ Try.func91 (by kernel_rfl) rfl [.ptr 4 1 0 0, .ptr 5 1 0 0] rfl (CS.buildL C w e.thn ((q.fork 0 (x.build C 0 b).blocks.length (elseN e.els (x.build C 0 b))).go (x.build C 0 b).blocks.length)) xt hxt2 (choice2_ok C w _ e hThn2))) ?_
 refine an ?_
 refine AGo.region ?_
 refine al 41 tok ?_
 refine am 42 ?_
 refine aq 43 (q_nilCheck rfl rfl rfl) ?_
 refine af 44 tok ?_
 refine AOps.w rfl rfl (o_store tok rfl rfl rfl rfl rfl rfl rfl rfl rfl (by decide) rfl z40q) ?_
 refine an ?_
 have e1 : e.build C w b = (((CS.buildL C w e.thn ((q.fork 0 (x.build C 0 b).blocks.length (elseN e.els (x.build C 0 b))).go (x.build C 0 b).blocks.length)).jump ((x.build C 0 b).blocks.length + 1)).go (q.fork 0 (x.build C 0 b).blocks.length (elseN e.els (x.build C 0 b))).now).go ((x.build C 0 b).blocks.length + 1) := by rw [sbk4 hk hl hx, hq]; rfl
 rw [e1]
 exact ⟨[], trivial, rfl, (rh_sub rfl (by decide) z14q z2q)⟩
set_option maxRecDepth 100000 in
theorem loop1_ok (C : Core) (w : Bool) (b : Bd) : ACall Try.prog 92 ([] ++ [] ++ []) (RH (bL5 C w b .free .free .free) (bFam (b).blocks)) (fun r h' => r = .tup [] ∧ HSub (putR 5 hNone (RH (bL5 C w b .free .free .free) (bFam (b).blocks))) h') := by
 refine ACall.of_body (n := 0) tok Try.func92 rfl rfl ?_
 refine AGo.skip ?_
 exact ⟨[], trivial, rfl, (rh_sub rfl (by decide) z30q z8q)⟩
theorem loop0_ok (C : Core) (w : Bool) (b : Bd) (x0 : Block) (hx0 : ((b.opened.opened.opened).go b.now).blocks[((b.opened.opened.opened).go b.now).now]? = some x0) : ACall Try.prog 89 [.ptr 2 1 0 0, .int .i64 (b.now : Int), .int .i64 (b.blocks.length : Int), .fn (.func 92) [] []] (RH (bL C w (b.opened.opened.opened)) (bFam ((b.opened.opened.opened)).blocks)) (fun r h' => r = .tup [] ∧ HSub (putR 2 hNone (RH (bL C w ((((b.opened.opened.opened).go b.now).jump b.blocks.length).go (b.opened.opened.opened).now)) (bFam (((((b.opened.opened.opened).go b.now).jump b.blocks.length).go (b.opened.opened.opened).now)).blocks))) h') := by
  have h := binside_ok C w (b.opened.opened.opened) .free .free .free ⟨⟨rfl, rfl, rfl⟩, rfl, rfl, rfl⟩ b.now b.blocks.length 92 _ Try.func92 (by kernel_rfl) rfl [] rfl ((b.opened.opened.opened).go b.now) x0 hx0 (loop1_ok C w ((b.opened.opened.opened).go b.now))
  rw [bL5_free, bL5_free] at h
  exact h.mono fun r h' hr => ⟨hr.1, putR_less hr.2⟩
set_option maxHeartbeats 1000000 in
set_option maxRecDepth 100000 in
theorem bloop_step (C : Core) (w : Bool) (b : Bd) (e : CS) (x : CE) (hk : e.kind = 5) (hl : e.es.length = 1) (hx : e.es[0]? = some x) (hc : b.cnt ≤ 70000000) (hlt : b.now < b.blocks.length) (x0 : Block) (hx0 : ((b.opened.opened.opened).go b.now).blocks[((b.opened.opened.opened).go b.now).now]? = some x0) (hV : ACall Try.prog 64 [.ptr 2 1 0 0, .loc x.row, .int .i64 ((0 : Nat) : Int)] (RH (bL C w (((((b.opened.opened.opened).go b.now).jump b.blocks.length).go b.now).go b.blocks.length)) (bFam ((((((b.opened.opened.opened).go b.now).jump b.blocks.length).go b.now).go b.blocks.length)).blocks)) (fun r h' => r = .tup [] ∧ HSub (putR 2 hNone (RH (bL C w (x.build C 0 (((((b.opened.opened.opened).go b.now).jump b.blocks.length).go b.now).go b.blocks.length))) (bFam ((x.build C 0 (((((b.opened.opened.opened).go b.now).jump b.blocks.length).go b.now).go b.blocks.length))).blocks))) h')) (zx : Block) (hzx : (x.build C 0 (((((b.opened.opened.opened).go b.now).jump b.blocks.length).go b.now).go b.blocks.length)).blocks[(x.build C 0 (((((b.opened.opened.opened).go b.now).jump b.blocks.length).go b.now).go b.blocks.length)).now]? = some zx) (xt : Block) (hxt : (CS.buildL C w e.thn (((x.build C 0 (((((b.opened.opened.opened).go b.now).jump b.blocks.length).go b.now).go b.blocks.length)).fork 0 (b.blocks.length + 1) (b.blocks.length + 2)).go (b.blocks.length + 1))).blocks[(CS.buildL C w e.thn (((x.build C 0 (((((b.opened.opened.opened).go b.now).jump b.blocks.length).go b.now).go b.blocks.length)).fork 0 (b.blocks.length + 1) (b.blocks.length + 2)).go (b.blocks.length + 1))).now]? = some xt) (hThn : ACall Try.prog 30 [.ptr 2 1 0 0, (.lst false (e.thn.map CS.cells))] (RH (bL C w (((x.build C 0 (((((b.opened.opened.opened).go b.now).jump b.blocks.length).go b.now).go b.blocks.length)).fork 0 (b.blocks.length + 1) (b.blocks.length + 2)).go (b.blocks.length + 1))) (bFam ((((x.build C 0 (((((b.opened.opened.opened).go b.now).jump b.blocks.length).go b.now).go b.blocks.length)).fork 0 (b.blocks.length + 1) (b.blocks.length + 2)).go (b.blocks.length + 1))).blocks)) (fun r h' => r = .tup [] ∧ HSub (putR 2 hNone (RH (bL C w (CS.buildL C w e.thn (((x.build C 0 (((((b.opened.opened.opened).go b.now).jump b.blocks.length).go b.now).go b.blocks.length)).fork 0 (b.blocks.length + 1) (b.blocks.length + 2)).go (b.blocks.length + 1)))) (bFam ((CS.buildL C w e.thn (((x.build C 0 (((((b.opened.opened.opened).go b.now).jump b.blocks.length).go b.now).go b.blocks.length)).fork 0 (b.blocks.length + 1) (b.blocks.length + 2)).go (b.blocks.length + 1)))).blocks))) h')) : ACall Try.prog 67 [.ptr 2 1 0 0, .loc e.row] (RH (bL C w b) (bFam (b).blocks)) (fun r h' => r = .tup [] ∧ HSub (putR 2 hNone (RH (bL C w (e.build C w b)) (bFam ((e.build C w b)).blocks))) h') := by
 have hO : Ext (.row false 1 [[.ptr 2 1 0 0]]) (.row false 1 [[.loc e.row]]) .free := ⟨⟨rfl, rfl, rfl⟩, rfl, rfl, rfl⟩
 have hlo := cnt_len b
 have hol := opened_len b
 have hol2 := opened_len (b.opened)
 have hol3 := opened_len (b.opened.opened)
 refine ACall.of_body (n := 44) tok Try.func67 rfl rfl ?_
 refine asr ?_
 refine ax 2 (o_box (sz := 1) 4 rfl rfl rfl rfl (Nat.zero_lt_succ _) rfl) ?_
 refine ax 3 (o_box (sz := 1) 5 rfl rfl rfl rfl (Nat.zero_lt_succ _) rfl) ?_
 refine an ?_
 refine AGo.seq ?_
 refine AGo.draw mix ?_
 refine dl 7 tok ?_
 refine dx 8 (o_callRL C w b (b.opened) (b.blocks.length + (b.opened).blocks.length) (by omega) (by omega) rfl Try.func28 (by kernel_rfl) rfl rfl rfl z14q z2q rfl (bopen_ok C w _ (by omega))) ?_
 refine dq 9 (q_load tok rfl rfl rfl (.ptr _ _ _ _ _ _ _ _ ((rW_lo (by decide)).trans rfl) rfl rfl) rfl) ?_
 refine dx 10 (o_callRL C w (b.opened) (b.opened.opened) ((b.opened).blocks.length + (b.opened.opened).blocks.length) (by omega) (by omega) rfl Try.func28 (by kernel_rfl) rfl rfl rfl z14q z2q rfl (bopen_ok C w _ (by omega))) ?_
 refine dq 11 (q_load tok rfl rfl rfl (.ptr _ _ _ _ _ _ _ _ ((rW_lo' (by decide) (by decide) (by decide)).trans ((rW_lo' (by decide) (by decide) (by decide)).trans rfl)) rfl rfl) rfl) ?_
 refine dx 12 (o_callRL C w (b.opened.opened) (b.opened.opened.opened) ((b.opened.opened).blocks.length + (b.opened.opened.opened).blocks.length) (by omega) (by omega) rfl Try.func28 (by kernel_rfl) rfl rfl rfl z3q z0q rfl (bopen_ok C w _ (by omega))) ?_
 refine da 4 ?_
 refine da 5 ?_
 refine da 6 ?_
 refine DOps.nilC clsB [([4],[]), ([2],[2]), ([4],[]), ([2],[2]), ([4],[]), ([2],[2]), ([],[]), ([],[]), ([],[])] z9q (by kernel_rfl) ?_
 refine AGo.seq ?_
 refine AGo.sub (s' := ⟨44, (eput (eput (eput (eput (eput eNew 2 (.ptr 4 1 0 0)) 3 (.ptr 5 1 0 0)) 4 (.int .i64 (b.blocks.length : Int))) 5 (.int .i64 ((b.blocks.length + 1 : Nat) : Int))) 6 (.int .i64 ((b.blocks.length + 2 : Nat) : Int))), (putR 5 hNone (RH (bL5 C w (b.opened.opened.opened) (.row false 1 [[.ptr 2 1 0 0]]) (.row false 1 [[.loc e.row]]) .free) (bFam ((b.opened.opened.opened)).blocks)))⟩) (Sub.mk' (by repeat (first | exact ESub.new _ | refine ESub.put ?_ (by first | rfl | exact congrArg (fun n : Nat => some (AV.int .i64 (n : Int))) (by omega)))) (rh_sub rfl (by decide) z3q z0q)) ?_
 refine AGo.draw mix ?_
 refine dl 13 tok ?_
 refine dl 14 tok ?_
 refine dq 15 (q_nilCheck rfl rfl rfl) ?_
 refine df 16 tok ?_
 refine dl 17 tok ?_
 refine dm 18 ?_
 refine dx 19 (o_callRL C w (b.opened.opened.opened) ((((b.opened.opened.opened).go b.now).jump b.blocks.length).go b.now) ((b.opened.opened.opened).blocks.length + ((((b.opened.opened.opened).go b.now).jump b.blocks.length).go b.now).blocks.length) (by omega) (by omega) rfl Try.func89 (by kernel_rfl) rfl rfl rfl z14q z2q rfl (loop0_ok C w b x0 hx0)) ?_
 refine DOps.nilC clsB [([4],[]), ([4],[]), ([],[]), ([],[]), ([2],[]), ([],[]), ([2],[2])] z9q (by kernel_rfl) ?_
 refine AGo.seq ?_
 refine AGo.sub (s' := ⟨44, (eput (eput (eput (eput (eput eNew 2 (.ptr 4 1 0 0)) 3 (.ptr 5 1 0 0)) 4 (.int .i64 (b.blocks.length : Int))) 5 (.int .i64 ((b.blocks.length + 1 : Nat) : Int))) 6 (.int .i64 ((b.blocks.length + 2 : Nat) : Int))), (putR 5 hNone (RH (bL5 C w ((((b.opened.opened.opened).go b.now).jump b.blocks.length).go b.now) (.row false 1 [[.ptr 2 1 0 0]]) (.row false 1 [[.loc e.row]]) .free) (bFam (((((b.opened.opened.opened).go b.now).jump b.blocks.length).go b.now)).blocks)))⟩) (Sub.mk' z34q (rh_sub rfl (by decide) z14q z2q)) ?_
 refine AGo.region ?_
 refine al 20 tok ?_
 refine am 21 ?_
 refine aq 22 (q_nilCheck rfl rfl rfl) ?_
 refine af 23 tok ?_
 refine AOps.w rfl rfl (o_store tok rfl rfl rfl rfl rfl rfl rfl rfl rfl (by decide) rfl z40q) ?_
 refine an ?_
 refine AGo.seq ?_
 refine AGo.sub (s' := ⟨44, (eput (eput (eput (eput (eput eNew 2 (.ptr 4 1 0 0)) 3 (.ptr 5 1 0 0)) 4 (.int .i64 (b.blocks.length : Int))) 5 (.int .i64 ((b.blocks.length + 1 : Nat) : Int))) 6 (.int .i64 ((b.blocks.length + 2 : Nat) : Int))), (putR 5 hNone (RH (bL5 C w (((((b.opened.opened.opened).go b.now).jump b.blocks.length).go b.now).go b.blocks.length) (.row false 1 [[.ptr 2 1 0 0]]) (.row false 1 [[.loc e.row]]) .free) (bFam ((((((b.opened.opened.opened).go b.now).jump b.blocks.length).go b.now).go b.blocks.length)).blocks)))⟩) (Sub.mk' z34q (rh_sub rfl (by decide) z14q z2q)) ?_
 refine AGo.draw mix ?_
 refine dl 24 tok ?_
 refine dl 25 tok ?_
 refine dq 26 (q_nilCheck rfl rfl rfl) ?_
 refine df 27 tok ?_
 refine dl 28 tok ?_
 refine dq 29 (q_index_lst tok rfl rfl rfl rfl rfl rfl (by decide) (idxE0 hx) rfl) ?_
 refine dx 30 (o_callRL C w (((((b.opened.opened.opened).go b.now).jump b.blocks.length).go b.now).go b.blocks.length) (x.build C 0 (((((b.opened.opened.opened).go b.now).jump b.blocks.length).go b.now).go b.blocks.length)) ((((((b.opened.opened.opened).go b.now).jump b.blocks.length).go b.now).go b.blocks.length).blocks.length + (x.build C 0 (((((b.opened.opened.opened).go b.now).jump b.blocks.length).go b.now).go b.blocks.length)).blocks.length) (by omega) (by omega) rfl Try.func64 (by kernel_rfl) rfl rfl rfl z14q z2q rfl (hV)) ?_
 refine DOps.nilC clsB [([4],[]), ([5],[]), ([],[]), ([],[]), ([],[]), ([],[]), ([2],[2])] z9q (by kernel_rfl) ?_
 refine AGo.seq ?_
 refine AGo.sub (s' := ⟨44, (eput (eput (eput (eput (eput eNew 2 (.ptr 4 1 0 0)) 3 (.ptr 5 1 0 0)) 4 (.int .i64 (b.blocks.length : Int))) 5 (.int .i64 ((b.blocks.length + 1 : Nat) : Int))) 6 (.int .i64 ((b.blocks.length + 2 : Nat) : Int))), (putR 5 hNone (RH (bL5 C w (x.build C 0 (((((b.opened.opened.opened).go b.now).jump b.blocks.length).go b.now).go b.blocks.length)) (.row false 1 [[.ptr 2 1 0 0]]) (.row false 1 [[.loc e.row]]) .free) (bFam ((x.build C 0 (((((b.opened.opened.opened).go b.now).jump b.blocks.length).go b.now).go b.blocks.length))).blocks)))⟩) (Sub.mk' z34q (rh_sub rfl (by decide) z14q z2q)) ?_
 refine AGo.region ?_
 refine al 31 tok ?_
 refine am 32 ?_
 refine am 33 ?_
 refine AOps.call 34 (hn := putR 2 _ (RH (bL C w ((x.build C 0 (((((b.opened.opened.opened).go b.now).jump b.blocks.length).go b.now).go b.blocks.length)).fork 0 (b.blocks.length + 1) (b.blocks.length + 2))) (bFam (((x.build C 0 (((((b.opened.opened.opened).go b.now).jump b.blocks.length).go b.now).go b.blocks.length)).fork 0 (b.blocks.length + 1) (b.blocks.length + 2))).blocks))) (r := .tup []) rfl rfl rfl (o_callRH 2 (bL C w (x.build C 0 (((((b.opened.opened.opened).go b.now).jump b.blocks.length).go b.now).go b.blocks.length))) (bL C w ((x.build C 0 (((((b.opened.opened.opened).go b.now).jump b.blocks.length).go b.now).go b.blocks.length)).fork 0 (b.blocks.length + 1) (b.blocks.length + 2))) (bFam (((x.build C 0 (((((b.opened.opened.opened).go b.now).jump b.blocks.length).go b.now).go b.blocks.length)).fork 0 (b.blocks.length + 1) (b.blocks.length + 2))).blocks) rfl Try.func48 (by kernel_rfl) rfl rfl rfl rfl rfl (by decide) (bL_avoid C w _) (bL_avoid C w _) z14q z2q (fun x => bFam_avoid _ x) (fun x => bFam_avoid _ x) rfl (bfork_ok C w (x.build C 0 (((((b.opened.opened.opened).go b.now).jump b.blocks.length).go b.now).go b.blocks.length)) zx hzx 0 (b.blocks.length + 1) (b.blocks.length + 2))) ?_
 refine an ?_
 refine asr ?_
 refine al 35 tok ?_
 refine am 36 ?_
 refine am 37 ?_
 refine aq 38 (q_makeFunc rfl rfl rfl) ?_
 refine AOps.call 39 (hn := putR 5 _ (RH (bL5 C w (((CS.buildL C w e.thn (((x.build C 0 (((((b.opened.opened.opened).go b.now).jump b.blocks.length).go b.now).go b.blocks.length)).fork 0 (b.blocks.length + 1) (b.blocks.length + 2)).go (b.blocks.length + 1))).jump b.blocks.length).go (((x.build C 0 (((((b.opened.opened.opened).go b.now).jump b.blocks.length).go b.now).go b.blocks.length)).fork 0 (b.blocks.length + 1) (b.blocks.length + 2))).now) (.row false 1 [[.ptr 2 1 0 0]]) (.row false 1 [[.loc e.row]]) .free) (bFam (((CS.buildL C w e.thn (((x.build C 0 (((((b.opened.opened.opened).go b.now).jump b.blocks.length).go b.now).go b.blocks.length)).fork 0 (b.blocks.length + 1) (b.blocks.length + 2)).go (b.blocks.length + 1))).jump b.blocks.length)).blocks))) (r := .tup []) rfl rfl rfl (o_callRH 5 (bL5 C w (((x.build C 0 (((((b.opened.opened.opened).go b.now).jump b.blocks.length).go b.now).go b.blocks.length)).fork 0 (b.blocks.length + 1) (b.blocks.length + 2))) (.row false 1 [[.ptr 2 1 0 0]]) (.row false 1 [[.loc e.row]]) .free) (bL5 C w (((CS.buildL C w e.thn (((x.build C 0 (((((b.opened.opened.opened).go b.now).jump b.blocks.length).go b.now).go b.blocks.length)).fork 0 (b.blocks.length + 1) (b.blocks.length + 2)).go (b.blocks.length + 1))).jump b.blocks.length).go (((x.build C 0 (((((b.opened.opened.opened).go b.now).jump b.blocks.length).go b.now).go b.blocks.length)).fork 0 (b.blocks.length + 1) (b.blocks.length + 2))).now) (.row false 1 [[.ptr 2 1 0 0]]) (.row false 1 [[.loc e.row]]) .free) (bFam ((CS.buildL C w e.thn (((x.build C 0 (((((b.opened.opened.opened).go b.now).jump b.blocks.length).go b.now).go b.blocks.length)).fork 0 (b.blocks.length + 1) (b.blocks.length + 2)).go (b.blocks.length + 1))).jump b.blocks.length).blocks) rfl Try.func89 (by kernel_rfl) rfl rfl rfl rfl rfl (by decide) (bL5_avoid C w _ hO) (bL5_avoid C w _ hO) z14q z2q (fun x => bFam_avoid _ x) (fun x => bFam_avoid _ x) rfl (binside_ok C w (((x.build C 0 (((((b.opened.opened.opened).go b.now).jump b.blocks.length).go b.now).go b.blocks.length)).fork 0 (b.blocks.length + 1) (b.blocks.length + 2))) (.row false 1 [[.ptr 2 1 0 0]]) (.row false 1 [[.loc e.row]]) .free hO (b.blocks.length + 1) (b.blocks.length) 93 _ Try.func93 (by kernel_rfl) rfl [.ptr 4 1 0 0, .ptr 5 1 0 0] rfl (CS.buildL C w e.thn (((x.build C 0 (((((b.opened.opened.opened).go b.now).jump b.blocks.length).go b.now).go b.blocks.length)).fork 0 (b.blocks.length + 1) (b.blocks.length + 2)).go (b.blocks.length + 1))) xt hxt (loop2_ok C w _ e hThn))) ?_
 refine an ?_
 refine AGo.region ?_
 refine al 40 tok ?_
 refine am 41 ?_
 refine aq 42 (q_nilCheck rfl rfl rfl) ?_
 refine af 43 tok ?_
 refine AOps.w rfl rfl (o_store tok rfl rfl rfl rfl rfl rfl rfl rfl rfl (by decide) rfl z40q) ?_
 refine an ?_
 have e1 : e.build C w b = (((CS.buildL C w e.thn (((x.build C 0 (((((b.opened.opened.opened).go b.now).jump b.blocks.length).go b.now).go b.blocks.length)).fork 0 (b.blocks.length + 1) (b.blocks.length + 2)).go (b.blocks.length + 1))).jump b.blocks.length).go ((x.build C 0 (((((b.opened.opened.opened).go b.now).jump b.blocks.length).go b.now).go b.blocks.length)).fork 0 (b.blocks.length + 1) (b.blocks.length + 2)).now).go (b.blocks.length + 2) := by rw [sbk5 hk hl hx]; rfl
 rw [e1]
 exact ⟨[], trivial, rfl, (rh_sub rfl (by decide) z14q z2q)⟩
theorem bstmts_of (C : Core) (w : Bool) (n : Nat) (l : List CS) (hS : ∀ x ∈ l, ∀ (b : Bd), Pl b → b.cnt + 11 * x.parts ≤ 70000000 → ACall Try.prog 50 [.ptr 2 1 0 0, .loc x.row] (RH (bL C w b) (bFam (b).blocks)) (fun r h' => r = .tup [] ∧ HSub (putR 2 hNone (RH (bL C w (x.build C w b)) (bFam ((x.build C w b)).blocks))) h')) (hok : CS.okL C n w l) (hlen : l.length * 96 ≤ reachBytes) (b : Bd) (hP : Pl b) (hc : b.cnt + 11 * CS.partsL l ≤ 70000000) : ACall Try.prog 30 [.ptr 2 1 0 0, (.lst false (l.map CS.cells))] (RH (bL C w b) (bFam (b).blocks)) (fun r h' => r = .tup [] ∧ HSub (putR 2 hNone (RH (bL C w (CS.buildL C w l b)) (bFam ((CS.buildL C w l b)).blocks))) h') := by
  refine bstmts_step C w b l (len96 hlen) fun k x hx => hS x (List.mem_of_getElem? hx) _ (stmts_pl (sokL_take k hok) hP) ?_
  have h1 := spartsL_take hx
  have h2 := spartsL_le (l := l) (k + 1)
  have h3 := cnt_stmts (C := C) (w := w) (l := l.take k) (fun e _ => cnt_stmt e.parts e (Nat.le_refl _)) b
  omega
theorem bstmt_ok (C : Core) (w : Bool) (n : Nat) (hr : CoreB C) : ∀ (m : Nat) (e : CS), e.parts ≤ m → e.ok C n w → e.Ok → ∀ (b : Bd), Pl b → b.cnt + 11 * e.parts ≤ 70000000 → ACall Try.prog 50 [.ptr 2 1 0 0, .loc e.row] (RH (bL C w b) (bFam (b).blocks)) (fun r h' => r = .tup [] ∧ HSub (putR 2 hNone (RH (bL C w (e.build C w b)) (bFam ((e.build C w b)).blocks))) h')
  | 0, e, hm, _, _, _, _, _ => absurd hm (by have := sparts_es e; omega)
  | m + 1, e, hm, ho, hk, b, hP, hc => by
    have hpe := sparts_es e
    have hT := bstmts_of C w n e.thn (fun x hx => bstmt_ok C w n hr m x (by have := sparts_mem hx; omega) (sokL_mem (sok_thn ho) hx) (hk.thnOk.1 x hx)) (sok_thn ho) hk.thnOk.2
    have hL := bstmts_of C w n e.els (fun x hx => bstmt_ok C w n hr m x (by have := sparts_mem hx; omega) (sokL_mem (sok_els ho) hx) (hk.elsOk.1 x hx)) (sok_els ho) hk.elsOk.2
    refine bstmt_step C w b n hr e ho hP hc (by omega) (fun h4 => ?_) (fun h5 => ?_)
    · have hl := sok_3 ho (.inr h4)
      obtain ⟨x, hx, hxm⟩ := get0 (l := e.es) (by omega)
      have hxo := sok_es ho hxm
      have hpx := parts_mem hxm
      have hPx : Pl (x.build C 0 b) := (codes_expr x.parts x (Nat.le_refl _) hxo 0 b hP).pl
      have c1 := cnt_expr (C := C) x.parts x (Nat.le_refl _) 0 b
      have hPe : Pl ((x.build C 0 b).opened.opened.opened.go ((x.build C 0 b).blocks.length + 2)) := blk0_pl (open3_at2 _)
      have c2 := cnt_stmts (C := C) (w := w) (l := e.els) (fun e _ => cnt_stmt e.parts e (Nat.le_refl _)) ((x.build C 0 b).opened.opened.opened.go ((x.build C 0 b).blocks.length + 2))
      rw [cnt_go, cnt_open, cnt_open, cnt_open] at c2
      obtain ⟨xe, hxe⟩ := (stmts_pl (sok_els ho) hPe).cur
      obtain ⟨q1, ⟨zq, q2⟩, q3, q4⟩ := elseB_ok (C := C) (n := n) (w := w) (sok_els ho) hPx
      have hne : (x.build C 0 b).blocks.length ≠ (elseB C w e.els (x.build C 0 b)).now := by have := hPx.lt; omega
      have hPt := forked_pl (v := 0) (to := (x.build C 0 b).blocks.length) (els := elseN e.els (x.build C 0 b)) q3 hne
      obtain ⟨xt, hxt⟩ := (stmts_pl (sok_thn ho) hPt).cur
      exact bchoice_step C w b e x h4 hl hx (by omega) (bval_ok C w n hr x.parts x (Nat.le_refl _) hxo 0 b hP (by omega) (by omega)) (by omega) xe (fun _ => hxe) (fun _ => hL _ hPe (by rw [cnt_go, cnt_open, cnt_open, cnt_open]; omega))
        zq (fun q hq => by rw [hq, q1]; exact q2) xt (fun q hq => by rw [hq]; exact hxt) (fun q hq => by rw [hq]; exact hT _ hPt (by rw [cnt_go, cnt_fork]; omega))
    · have hl := sok_5 ho h5
      obtain ⟨x, hx, hxm⟩ := get0 (l := e.es) (by omega)
      have hxo := sok_es ho hxm
      have hpx := parts_mem hxm
      have hlt := hP.lt
      obtain ⟨x0, hx0⟩ := hP.cur
      have hl3 : b.opened.opened.opened.blocks.length = b.blocks.length + 3 := by rw [opened_len, opened_len, opened_len]
      have hG0 : (((b.opened.opened.opened.go b.now).jump b.blocks.length).go b.now).blocks[b.blocks.length]? = some blk0 := jumped_at (q := b.opened.opened.opened.go b.now) (open3_at b) z45q
      have hG1 : (((b.opened.opened.opened.go b.now).jump b.blocks.length).go b.now).blocks[b.blocks.length + 1]? = some blk0 := jumped_at (q := b.opened.opened.opened.go b.now) (open3_at1 b) (by show b.blocks.length + 1 ≠ b.now; omega)
      have hPG := blk0_pl hG0
      have hcx := codes_expr x.parts x (Nat.le_refl _) hxo 0 _ hPG
      have c1 := cnt_expr (C := C) x.parts x (Nat.le_refl _) 0 ((((b.opened.opened.opened.go b.now).jump b.blocks.length).go b.now).go b.blocks.length)
      rw [cnt_go, cnt_go, cnt_jump, cnt_go, cnt_open, cnt_open, cnt_open] at c1
      obtain ⟨zx, hzx⟩ := hcx.pl.cur
      have hfr := hcx.fr.old (b.blocks.length + 1) blk0 (by show b.blocks.length + 1 ≠ b.blocks.length; omega) hG1
      have hnow := hcx.fr.now
      have hGl : ((((b.opened.opened.opened.go b.now).jump b.blocks.length).go b.now).go b.blocks.length).blocks.length = b.blocks.length + 3 := by
        show (b.opened.opened.opened.blocks.modify b.now _).length = _
        rw [List.length_modify]; exact hl3
      have hne : b.blocks.length + 1 ≠ (x.build C 0 ((((b.opened.opened.opened.go b.now).jump b.blocks.length).go b.now).go b.blocks.length)).now := by
        rcases hnow with h | h
        · rw [h]; show b.blocks.length + 1 ≠ b.blocks.length; omega
        · rw [hGl] at h; omega
      have hPt := forked_pl (v := 0) (to := b.blocks.length + 1) (els := b.blocks.length + 2) hfr hne
      obtain ⟨xt, hxt⟩ := (stmts_pl (sok_thn ho) hPt).cur
      exact bloop_step C w b e x h5 hl hx (by omega) hlt x0 (by show b.opened.opened.opened.blocks[b.now]? = _; rw [opened_old (by rw [opened_len, opened_len]; omega), opened_old (by rw [opened_len]; omega), opened_old hlt]; exact hx0)
        (bval_ok C w n hr x.parts x (Nat.le_refl _) hxo 0 _ hPG (by rw [cnt_go, cnt_go, cnt_jump, cnt_go, cnt_open, cnt_open, cnt_open]; omega) (by omega)) zx hzx xt hxt (hT _ hPt (by rw [cnt_go, cnt_fork]; omega))
set_option maxHeartbeats 1000000 in
set_option maxRecDepth 100000 in
theorem bnought_ok (C : Core) (w : Bool) (b : Bd) (a to : Int) (hb : b.Cur) (ha : 0 ≤ a) (ha2 : a ≤ 1000000) (hto : to ≤ 1000000) (hto0 : 0 ≤ to) (hc : b.cnt ≤ 50000000) : ACall Try.prog 29 [.ptr 2 1 0 0, .int .i64 a, .int .i64 to] (RH (bL C w b) (bFam (b).blocks)) (fun r h' => r = .tup [] ∧ HSub (putR 2 hNone (RH (bL C w (b.nought a (to - a).toNat)) (bFam ((b.nought a (to - a).toNat)).blocks))) h') := by
 obtain ⟨x, hx⟩ := id hb
 refine ACall.of_body (n := 80) tok Try.func29 rfl rfl ?_
 refine AGo.seq ?_
 refine asr ?_
 refine am 10 ?_
 refine am 11 ?_
 refine aqb ?_
 refine an ?_
 refine AGo.split 12 rfl (fun hb1 => ?_) (fun hb1 => ?_)
 ·
  refine act ?_
  refine AGo.ret ?_
  rw [nought_nil b a (show (to - a).toNat = 0 by have h := hb1; simp at h; omega)]
  exact ⟨[], trivial, rfl, (rh_sub rfl (by decide) z30q z8q)⟩
 ·
  refine acf ?_
  have hlt : a < to := by have h := hb1; simp at h; omega
  refine AGo.skip ?_
  refine asr ?_
  refine am 13 ?_
  refine AOps.call 14 (hn := putR 2 _ (RH (bL C w (b.put (iNum 0 0))) (bFam ((b.put (iNum 0 0))).blocks))) (r := .tup []) rfl rfl rfl (o_callRH 2 (bL C w b) (bL C w (b.put (iNum 0 0))) (bFam ((b.put (iNum 0 0))).blocks) rfl Try.func44 (by kernel_rfl) rfl rfl rfl rfl rfl (by decide) (bL_avoid C w _) (bL_avoid C w _) z30q z8q (fun x => bFam_avoid _ x) (fun x => bFam_avoid _ x) rfl (bnum_ok C w b x hx (by omega) 0 0 (by omega))) ?_
  refine an ?_
  refine AGo.seq ?_
  refine AGo.block ?_
  refine AGo.loopK (γ := Nat × Bd × Int) (kf 4) (fun q => ⟨80, (eput (eput (eput eNew 0 (.ptr 2 1 0 0)) 1 (.int .i64 q.2.2)) 2 (.int .i64 to)), (fam (nb [.free, .free, (.row false 6 [bCell C w q.2.1]), (.row false 5 (bRows (q.2.1).blocks))]) (bFam (q.2.1).blocks))⟩) (fun q => NoW (b.nought a (to - a).toNat) to (b.cnt + 1 + (to - a).toNat) q) (fun q => (to - q.2.2).toNat) ((to - a).toNat, (b.put (iNum 0 0)), a) (Sub.mk' z34q (famSub (k0 := 4) rfl z21q z23q (fun c h1 h2 => by rcases (by omega : c = 4 ∨ c = 5 ∨ c = 6 ∨ c = 7 ∨ c = 8 ∨ c = 9 ∨ c = 10 ∨ c = 11 ∨ c = 12 ∨ c = 13 ∨ c = 14 ∨ c = 15) with rfl | rfl | rfl | rfl | rfl | rfl | rfl | rfl | rfl | rfl | rfl | rfl <;> first | rfl | (try simp only [hputs]; repeat (first | rfl | refine hput_skip (by exact beq_false_of_ne (by omega)) ?_ | refine hrm_skip (by omega) ?_))))) (NoW.first hb ha hlt) (fun g b hb => famFree (k0 := 4) rfl hb) ?_
  intro q hQ
  have hc0 := hQ.cnt
  have hqa := hQ.a0
  have hqt := hQ.a1
  refine AGo.seq ?_
  refine asr ?_
  refine am 15 ?_
  refine am 16 ?_
  refine aq 17 (q_bin (r := .int .i64 (to - q.2.2)) rfl rfl rfl z29q) ?_
  refine aqb ?_
  refine an ?_
  refine AGo.split 18 rfl (fun hb2 => ?_) (fun hb2 => ?_)
  ·
   refine act ?_
   have hn64 : 64 < (to - q.2.2).toNat := by have h := hb2; simp at h; omega
   have hN := hQ.next hn64
   have hc0 := hQ.cnt
   have hqa := hQ.a0
   have hqt := hQ.a1
   have hn3 := chunkN_ok hn64
   obtain ⟨x0, hx0⟩ := id hQ.cur
   have u1 := hQ.cur.put (iNum 1 0)
   have c1 := hQ.cur.cnt (iNum 1 0)
   obtain ⟨x1, hx1⟩ := id u1
   have u2 := u1.put (iNum 2 8)
   have c2 := u1.cnt (iNum 2 8)
   obtain ⟨x2, hx2⟩ := id u2
   have u3 : Bd.Cur (q.2.1.chunk1 (chunkN (to - q.2.2).toNat)) := u2.put (iNum 3 (chunkN (to - q.2.2).toNat))
   have c3 : Bd.cnt (q.2.1.chunk1 (chunkN (to - q.2.2).toNat)) = _ := u2.cnt (iNum 3 (chunkN (to - q.2.2).toNat))
   obtain ⟨x4, hx4⟩ := id u3.opened
   have u4 := cur_chunk2 u3
   have c4 := cnt_chunk2 (q.2.1.chunk1 (chunkN (to - q.2.2).toNat))
   have u8 := cur_astores u4 q.2.2 (((chunkN (to - q.2.2).toNat) : Int) - 7) 8
   have c8 := cnt_astores u4 q.2.2 (((chunkN (to - q.2.2).toNat) : Int) - 7) 8
   obtain ⟨y8, hy8⟩ := id u8
   have u9 := u8.put (iBin 4 1 1 2)
   have c9 := u8.cnt (iBin 4 1 1 2)
   obtain ⟨y9, hy9⟩ := id u9
   have u10 := u9.put (iBin 14 4 1 3)
   have c10 := u9.cnt (iBin 14 4 1 3)
   obtain ⟨y11, hy11⟩ := id u10.opened
   refine AGo.skip ?_
   refine AGo.block ?_
   refine asr ?_
   refine am 19 ?_
   refine am 20 ?_
   refine aq 21 (q_bin (r := .int .i64 (to - q.2.2)) rfl rfl rfl z29q) ?_
   refine aq 22 (q_min rfl rfl rfl) ?_
   refine aq 23 (q_bin (r := .int .i64 ((min (to - q.2.2).toNat 4096 / 8 : Nat) : Int)) rfl rfl rfl (chunk_quo hn64)) ?_
   refine aq 24 (q_bin (r := .int .i64 ((chunkN (to - q.2.2).toNat) : Int)) rfl rfl rfl chunk_mul) ?_
   refine aa 6 ?_
   refine an ?_
   refine asr ?_
   refine am 25 ?_
   refine AOps.call 26 (hn := putR 2 _ (RH (bL C w (q.2.1.put (iNum 1 0))) (bFam ((q.2.1.put (iNum 1 0))).blocks))) (r := .tup []) rfl rfl rfl (o_callRH 2 (bL C w q.2.1) (bL C w (q.2.1.put (iNum 1 0))) (bFam ((q.2.1.put (iNum 1 0))).blocks) rfl Try.func44 (by kernel_rfl) rfl rfl rfl rfl rfl (by decide) (bL_avoid C w _) (bL_avoid C w _) z30q z8q (fun x => bFam_avoid _ x) (fun x => bFam_avoid _ x) rfl (bnum_ok C w q.2.1 x0 hx0 (by omega) 1 0 (by omega))) ?_
   refine an ?_
   refine asr ?_
   refine am 27 ?_
   refine AOps.call 28 (hn := putR 2 _ (RH (bL C w ((q.2.1.put (iNum 1 0)).put (iNum 2 8))) (bFam (((q.2.1.put (iNum 1 0)).put (iNum 2 8))).blocks))) (r := .tup []) rfl rfl rfl (o_callRH 2 (bL C w (q.2.1.put (iNum 1 0))) (bL C w ((q.2.1.put (iNum 1 0)).put (iNum 2 8))) (bFam (((q.2.1.put (iNum 1 0)).put (iNum 2 8))).blocks) rfl Try.func44 (by kernel_rfl) rfl rfl rfl rfl rfl (by decide) (bL_avoid C w _) (bL_avoid C w _) z30q z8q (fun x => bFam_avoid _ x) (fun x => bFam_avoid _ x) rfl (bnum_ok C w (q.2.1.put (iNum 1 0)) x1 hx1 (by omega) 2 8 (by omega))) ?_
   refine an ?_
   refine asr ?_
   refine am 29 ?_
   refine am 30 ?_
   refine aq 31 (q_convTo tok rfl rfl rfl rfl rfl (r := ((chunkN (to - q.2.2).toNat) : Int)) (by rw [IntKind.wrap_u32]; omega)) ?_
   refine AOps.call 32 (hn := putR 2 _ (RH (bL C w (q.2.1.chunk1 (chunkN (to - q.2.2).toNat))) (bFam ((q.2.1.chunk1 (chunkN (to - q.2.2).toNat))).blocks))) (r := .tup []) rfl rfl rfl (o_callRH 2 (bL C w ((q.2.1.put (iNum 1 0)).put (iNum 2 8))) (bL C w (q.2.1.chunk1 (chunkN (to - q.2.2).toNat))) (bFam ((q.2.1.chunk1 (chunkN (to - q.2.2).toNat))).blocks) rfl Try.func44 (by kernel_rfl) rfl rfl rfl rfl rfl (by decide) (bL_avoid C w _) (bL_avoid C w _) z30q z8q (fun x => bFam_avoid _ x) (fun x => bFam_avoid _ x) rfl (bnum_ok C w ((q.2.1.put (iNum 1 0)).put (iNum 2 8)) x2 hx2 (by omega) 3 (chunkN (to - q.2.2).toNat) (by omega))) ?_
   refine an ?_
   refine asr ?_
   refine am 33 ?_
   refine AOps.call 34 (hn := putR 2 _ (RH (bL C w ((q.2.1.chunk1 (chunkN (to - q.2.2).toNat)).opened)) (bFam (((q.2.1.chunk1 (chunkN (to - q.2.2).toNat)).opened)).blocks))) (r := .int .i64 ((q.2.1.chunk1 (chunkN (to - q.2.2).toNat)).blocks.length : Int)) rfl rfl rfl (o_callRH 2 (bL C w (q.2.1.chunk1 (chunkN (to - q.2.2).toNat))) (bL C w ((q.2.1.chunk1 (chunkN (to - q.2.2).toNat)).opened)) (bFam (((q.2.1.chunk1 (chunkN (to - q.2.2).toNat)).opened)).blocks) rfl Try.func28 (by kernel_rfl) rfl rfl rfl rfl rfl (by decide) (bL_avoid C w _) (bL_avoid C w _) z30q z8q (fun x => bFam_avoid _ x) (fun x => bFam_avoid _ x) rfl (bopen_ok C w _ (by have := cnt_len (q.2.1.chunk1 (chunkN (to - q.2.2).toNat)); omega))) ?_
   refine aa 7 ?_
   refine an ?_
   refine asr ?_
   refine am 35 ?_
   refine am 36 ?_
   refine AOps.call 37 (hn := putR 2 _ (RH (bL C w ((q.2.1.chunk1 (chunkN (to - q.2.2).toNat)).opened.jump (q.2.1.chunk1 (chunkN (to - q.2.2).toNat)).blocks.length)) (bFam (((q.2.1.chunk1 (chunkN (to - q.2.2).toNat)).opened.jump (q.2.1.chunk1 (chunkN (to - q.2.2).toNat)).blocks.length)).blocks))) (r := .tup []) rfl rfl rfl (o_callRH 2 (bL C w ((q.2.1.chunk1 (chunkN (to - q.2.2).toNat)).opened)) (bL C w ((q.2.1.chunk1 (chunkN (to - q.2.2).toNat)).opened.jump (q.2.1.chunk1 (chunkN (to - q.2.2).toNat)).blocks.length)) (bFam (((q.2.1.chunk1 (chunkN (to - q.2.2).toNat)).opened.jump (q.2.1.chunk1 (chunkN (to - q.2.2).toNat)).blocks.length)).blocks) rfl Try.func45 (by kernel_rfl) rfl rfl rfl rfl rfl (by decide) (bL_avoid C w _) (bL_avoid C w _) z30q z8q (fun x => bFam_avoid _ x) (fun x => bFam_avoid _ x) rfl (bjump_ok C w ((q.2.1.chunk1 (chunkN (to - q.2.2).toNat)).opened) x4 hx4 (q.2.1.chunk1 (chunkN (to - q.2.2).toNat)).blocks.length)) ?_
   refine an ?_
   refine asr ?_
   refine am 38 ?_
   refine am 39 ?_
   refine aq 40 (q_nilCheck rfl rfl rfl) ?_
   refine af 41 tok ?_
   refine AOps.w rfl rfl (o_store tok rfl rfl rfl rfl rfl rfl rfl rfl rfl (by decide) rfl z40q) ?_
   refine an ?_
   refine AGo.seq ?_
   refine AGo.seq ?_
   refine AGo.sub (s' := ⟨80, (eput (eput (eput (eput (eput eNew 0 (.ptr 2 1 0 0)) 1 (.int .i64 q.2.2)) 2 (.int .i64 to)) 6 (.int .i64 ((chunkN (to - q.2.2).toNat) : Int))) 7 (.int .i64 ((q.2.1.chunk1 (chunkN (to - q.2.2).toNat)).blocks.length : Int))), (fam (nb [.free, .free, (.row false 6 [bCell C w ((q.2.1.chunk1 (chunkN (to - q.2.2).toNat)).chunk2)]), (.row false 5 (bRows (((q.2.1.chunk1 (chunkN (to - q.2.2).toNat)).chunk2)).blocks))]) (bFam (((q.2.1.chunk1 (chunkN (to - q.2.2).toNat)).chunk2)).blocks))⟩) (Sub.mk' z34q (famSub (k0 := 4) rfl z21q z8q (fun c h1 h2 => by rcases (by omega : c = 4 ∨ c = 5 ∨ c = 6 ∨ c = 7 ∨ c = 8 ∨ c = 9 ∨ c = 10 ∨ c = 11 ∨ c = 12 ∨ c = 13 ∨ c = 14 ∨ c = 15) with rfl | rfl | rfl | rfl | rfl | rfl | rfl | rfl | rfl | rfl | rfl | rfl <;> first | rfl | (try simp only [hputs]; repeat (first | rfl | refine hput_skip (by exact beq_false_of_ne (by omega)) ?_ | refine hrm_skip (by omega) ?_))))) ?_
   refine AGo.region ?_
   refine am 42 ?_
   refine an ?_
   refine AGo.block ?_
   refine AGo.loopK (γ := Nat) (kf 4) (fun j => ⟨80, (eput (eput (eput (eput (eput (eput eNew 0 (.ptr 2 1 0 0)) 1 (.int .i64 q.2.2)) 2 (.int .i64 to)) 6 (.int .i64 ((chunkN (to - q.2.2).toNat) : Int))) 7 (.int .i64 ((q.2.1.chunk1 (chunkN (to - q.2.2).toNat)).blocks.length : Int))) 42 (.int .i64 (j : Int))), (fam (nb [.free, .free, (.row false 6 [bCell C w (((q.2.1.chunk1 (chunkN (to - q.2.2).toNat)).chunk2).astores q.2.2 (((chunkN (to - q.2.2).toNat) : Int) - 7) j)]), (.row false 5 (bRows ((((q.2.1.chunk1 (chunkN (to - q.2.2).toNat)).chunk2).astores q.2.2 (((chunkN (to - q.2.2).toNat) : Int) - 7) j)).blocks))]) (bFam ((((q.2.1.chunk1 (chunkN (to - q.2.2).toNat)).chunk2).astores q.2.2 (((chunkN (to - q.2.2).toNat) : Int) - 7) j)).blocks))⟩) (fun j => j ≤ 8) (fun j => 8 - j) 0 (Sub.mk' z34q (famSub (k0 := 4) rfl z21q z23q (fun c h1 h2 => by rcases (by omega : c = 4 ∨ c = 5 ∨ c = 6 ∨ c = 7 ∨ c = 8 ∨ c = 9 ∨ c = 10 ∨ c = 11 ∨ c = 12 ∨ c = 13 ∨ c = 14 ∨ c = 15) with rfl | rfl | rfl | rfl | rfl | rfl | rfl | rfl | rfl | rfl | rfl | rfl <;> first | rfl | (try simp only [hputs]; repeat (first | rfl | refine hput_skip (by exact beq_false_of_ne (by omega)) ?_ | refine hrm_skip (by omega) ?_))))) (Nat.zero_le _) (fun g b hb => famFree (k0 := 4) rfl hb) ?_
   intro j hj
   refine asr ?_
   refine aqb ?_
   refine an ?_
   refine AGo.seq ?_
   refine AGo.split 43 rfl (fun hb3 => ?_) (fun hb3 => ?_)
   ·
    refine act ?_
    have hjl : j < 8 := by have h := hb3; simp at h; omega
    obtain ⟨y, hy⟩ := cur_astores u4 q.2.2 (((chunkN (to - q.2.2).toNat) : Int) - 7) j
    have cj := cnt_astores u4 q.2.2 (((chunkN (to - q.2.2).toNat) : Int) - 7) j
    refine AGo.skip ?_;refine AGo.seq ?_;refine AGo.block ?_;refine asr ?_;refine am 44 ?_;refine aa 8 ?_;refine an ?_;refine AGo.region ?_;refine am 45 ?_;refine am 46 ?_;refine am 47 ?_;refine aq 48 (q_bin (r := .int .i64 (q.2.2 + (j : Int))) rfl rfl rfl z29q) ?_;refine am 49 ?_;refine aq 50 (q_bin (r := .int .i64 (((chunkN (to - q.2.2).toNat) : Int) - 8)) rfl rfl rfl z29q) ?_;refine aq 51 (q_bin (r := .int .i64 (((chunkN (to - q.2.2).toNat) : Int) - 7)) rfl rfl rfl z26q) ?_;refine aq 52 (q_build tok rfl rfl rfl rfl rfl (by decide) rfl rfl rfl) ?_;refine AOps.call 53 (hn := putR 2 _ (RH (bL C w ((((q.2.1.chunk1 (chunkN (to - q.2.2).toNat)).chunk2).astores q.2.2 (((chunkN (to - q.2.2).toNat) : Int) - 7) j).put (iAStore 1 0 (q.2.2 + (j : Int)) (((chunkN (to - q.2.2).toNat) : Int) - 7)))) (bFam (((((q.2.1.chunk1 (chunkN (to - q.2.2).toNat)).chunk2).astores q.2.2 (((chunkN (to - q.2.2).toNat) : Int) - 7) j).put (iAStore 1 0 (q.2.2 + (j : Int)) (((chunkN (to - q.2.2).toNat) : Int) - 7)))).blocks))) (r := .tup []) rfl rfl rfl (o_callRH 2 (bL C w (((q.2.1.chunk1 (chunkN (to - q.2.2).toNat)).chunk2).astores q.2.2 (((chunkN (to - q.2.2).toNat) : Int) - 7) j)) (bL C w ((((q.2.1.chunk1 (chunkN (to - q.2.2).toNat)).chunk2).astores q.2.2 (((chunkN (to - q.2.2).toNat) : Int) - 7) j).put (iAStore 1 0 (q.2.2 + (j : Int)) (((chunkN (to - q.2.2).toNat) : Int) - 7)))) (bFam (((((q.2.1.chunk1 (chunkN (to - q.2.2).toNat)).chunk2).astores q.2.2 (((chunkN (to - q.2.2).toNat) : Int) - 7) j).put (iAStore 1 0 (q.2.2 + (j : Int)) (((chunkN (to - q.2.2).toNat) : Int) - 7)))).blocks) rfl Try.func46 (by kernel_rfl) rfl rfl rfl rfl rfl (by decide) (bL_avoid C w _) (bL_avoid C w _) z30q z8q (fun x => bFam_avoid _ x) (fun x => bFam_avoid _ x) rfl (bput_ok C w (((q.2.1.chunk1 (chunkN (to - q.2.2).toNat)).chunk2).astores q.2.2 (((chunkN (to - q.2.2).toNat) : Int) - 7) j) y hy (iAStore 1 0 (q.2.2 + (j : Int)) (((chunkN (to - q.2.2).toNat) : Int) - 7)) (Int.le_refl 0) (show (0 : Int) ≤ 1000000000 by decide) (by have := cnt_ins hy; omega))) ?_
    refine an ?_;refine AGo.region ?_;refine aq 54 (q_inc rfl rfl hjl (by simp only [maxLen]; omega)) ?_;refine am 42 ?_;refine an ?_;exact ⟨j+1, DropK.mk' z31q (famDrop (k0 := 4) rfl z21q z23q (fun x_ => bFam_avoid _ x_)), hjl, by omega⟩
   ·
    refine acf ?_
    have hje : j = 8 := by have h := hb3; simp at h; omega
    subst hje
    refine AGo.exit ?_;refine asr ?_;refine am 55 ?_;refine AOps.call 56 (hn := putR 2 _ (RH (bL C w ((((q.2.1.chunk1 (chunkN (to - q.2.2).toNat)).chunk2).astores q.2.2 (((chunkN (to - q.2.2).toNat) : Int) - 7) 8).put (iBin 4 1 1 2))) (bFam (((((q.2.1.chunk1 (chunkN (to - q.2.2).toNat)).chunk2).astores q.2.2 (((chunkN (to - q.2.2).toNat) : Int) - 7) 8).put (iBin 4 1 1 2))).blocks))) (r := .tup []) rfl rfl rfl (o_callRH 2 (bL C w (((q.2.1.chunk1 (chunkN (to - q.2.2).toNat)).chunk2).astores q.2.2 (((chunkN (to - q.2.2).toNat) : Int) - 7) 8)) (bL C w ((((q.2.1.chunk1 (chunkN (to - q.2.2).toNat)).chunk2).astores q.2.2 (((chunkN (to - q.2.2).toNat) : Int) - 7) 8).put (iBin 4 1 1 2))) (bFam (((((q.2.1.chunk1 (chunkN (to - q.2.2).toNat)).chunk2).astores q.2.2 (((chunkN (to - q.2.2).toNat) : Int) - 7) 8).put (iBin 4 1 1 2))).blocks) rfl Try.func47 (by kernel_rfl) rfl rfl rfl rfl rfl (by decide) (bL_avoid C w _) (bL_avoid C w _) z30q z8q (fun x => bFam_avoid _ x) (fun x => bFam_avoid _ x) rfl (bbin_ok C w (((q.2.1.chunk1 (chunkN (to - q.2.2).toNat)).chunk2).astores q.2.2 (((chunkN (to - q.2.2).toNat) : Int) - 7) 8) y8 hy8 (by omega) 4 1 1 2 (by omega))) ?_
    refine an ?_;refine asr ?_;refine am 57 ?_;refine AOps.call 58 (hn := putR 2 _ (RH (bL C w (((((q.2.1.chunk1 (chunkN (to - q.2.2).toNat)).chunk2).astores q.2.2 (((chunkN (to - q.2.2).toNat) : Int) - 7) 8).put (iBin 4 1 1 2)).put (iBin 14 4 1 3))) (bFam ((((((q.2.1.chunk1 (chunkN (to - q.2.2).toNat)).chunk2).astores q.2.2 (((chunkN (to - q.2.2).toNat) : Int) - 7) 8).put (iBin 4 1 1 2)).put (iBin 14 4 1 3))).blocks))) (r := .tup []) rfl rfl rfl (o_callRH 2 (bL C w ((((q.2.1.chunk1 (chunkN (to - q.2.2).toNat)).chunk2).astores q.2.2 (((chunkN (to - q.2.2).toNat) : Int) - 7) 8).put (iBin 4 1 1 2))) (bL C w (((((q.2.1.chunk1 (chunkN (to - q.2.2).toNat)).chunk2).astores q.2.2 (((chunkN (to - q.2.2).toNat) : Int) - 7) 8).put (iBin 4 1 1 2)).put (iBin 14 4 1 3))) (bFam ((((((q.2.1.chunk1 (chunkN (to - q.2.2).toNat)).chunk2).astores q.2.2 (((chunkN (to - q.2.2).toNat) : Int) - 7) 8).put (iBin 4 1 1 2)).put (iBin 14 4 1 3))).blocks) rfl Try.func47 (by kernel_rfl) rfl rfl rfl rfl rfl (by decide) (bL_avoid C w _) (bL_avoid C w _) z30q z8q (fun x => bFam_avoid _ x) (fun x => bFam_avoid _ x) rfl (bbin_ok C w ((((q.2.1.chunk1 (chunkN (to - q.2.2).toNat)).chunk2).astores q.2.2 (((chunkN (to - q.2.2).toNat) : Int) - 7) 8).put (iBin 4 1 1 2)) y9 hy9 (by omega) 14 4 1 3 (by omega))) ?_
    refine an ?_;refine asr ?_;refine am 59 ?_;refine AOps.call 60 (hn := putR 2 _ (RH (bL C w ((((((q.2.1.chunk1 (chunkN (to - q.2.2).toNat)).chunk2).astores q.2.2 (((chunkN (to - q.2.2).toNat) : Int) - 7) 8).put (iBin 4 1 1 2)).put (iBin 14 4 1 3)).opened)) (bFam (((((((q.2.1.chunk1 (chunkN (to - q.2.2).toNat)).chunk2).astores q.2.2 (((chunkN (to - q.2.2).toNat) : Int) - 7) 8).put (iBin 4 1 1 2)).put (iBin 14 4 1 3)).opened)).blocks))) (r := .int .i64 ((((((q.2.1.chunk1 (chunkN (to - q.2.2).toNat)).chunk2).astores q.2.2 (((chunkN (to - q.2.2).toNat) : Int) - 7) 8).put (iBin 4 1 1 2)).put (iBin 14 4 1 3)).blocks.length : Int)) rfl rfl rfl (o_callRH 2 (bL C w (((((q.2.1.chunk1 (chunkN (to - q.2.2).toNat)).chunk2).astores q.2.2 (((chunkN (to - q.2.2).toNat) : Int) - 7) 8).put (iBin 4 1 1 2)).put (iBin 14 4 1 3))) (bL C w ((((((q.2.1.chunk1 (chunkN (to - q.2.2).toNat)).chunk2).astores q.2.2 (((chunkN (to - q.2.2).toNat) : Int) - 7) 8).put (iBin 4 1 1 2)).put (iBin 14 4 1 3)).opened)) (bFam (((((((q.2.1.chunk1 (chunkN (to - q.2.2).toNat)).chunk2).astores q.2.2 (((chunkN (to - q.2.2).toNat) : Int) - 7) 8).put (iBin 4 1 1 2)).put (iBin 14 4 1 3)).opened)).blocks) rfl Try.func28 (by kernel_rfl) rfl rfl rfl rfl rfl (by decide) (bL_avoid C w _) (bL_avoid C w _) z30q z8q (fun x => bFam_avoid _ x) (fun x => bFam_avoid _ x) rfl (bopen_ok C w _ (by have := cnt_len (((((q.2.1.chunk1 (chunkN (to - q.2.2).toNat)).chunk2).astores q.2.2 (((chunkN (to - q.2.2).toNat) : Int) - 7) 8).put (iBin 4 1 1 2)).put (iBin 14 4 1 3)); omega))) ?_
    refine aa 9 ?_;refine an ?_;refine asr ?_;refine am 61 ?_;refine am 62 ?_;refine am 63 ?_;refine AOps.call 64 (hn := putR 2 _ (RH (bL C w ((((((q.2.1.chunk1 (chunkN (to - q.2.2).toNat)).chunk2).astores q.2.2 (((chunkN (to - q.2.2).toNat) : Int) - 7) 8).put (iBin 4 1 1 2)).put (iBin 14 4 1 3)).opened.fork 4 (q.2.1.chunk1 (chunkN (to - q.2.2).toNat)).blocks.length (((((q.2.1.chunk1 (chunkN (to - q.2.2).toNat)).chunk2).astores q.2.2 (((chunkN (to - q.2.2).toNat) : Int) - 7) 8).put (iBin 4 1 1 2)).put (iBin 14 4 1 3)).blocks.length)) (bFam (((((((q.2.1.chunk1 (chunkN (to - q.2.2).toNat)).chunk2).astores q.2.2 (((chunkN (to - q.2.2).toNat) : Int) - 7) 8).put (iBin 4 1 1 2)).put (iBin 14 4 1 3)).opened.fork 4 (q.2.1.chunk1 (chunkN (to - q.2.2).toNat)).blocks.length (((((q.2.1.chunk1 (chunkN (to - q.2.2).toNat)).chunk2).astores q.2.2 (((chunkN (to - q.2.2).toNat) : Int) - 7) 8).put (iBin 4 1 1 2)).put (iBin 14 4 1 3)).blocks.length)).blocks))) (r := .tup []) rfl rfl rfl (o_callRH 2 (bL C w ((((((q.2.1.chunk1 (chunkN (to - q.2.2).toNat)).chunk2).astores q.2.2 (((chunkN (to - q.2.2).toNat) : Int) - 7) 8).put (iBin 4 1 1 2)).put (iBin 14 4 1 3)).opened)) (bL C w ((((((q.2.1.chunk1 (chunkN (to - q.2.2).toNat)).chunk2).astores q.2.2 (((chunkN (to - q.2.2).toNat) : Int) - 7) 8).put (iBin 4 1 1 2)).put (iBin 14 4 1 3)).opened.fork 4 (q.2.1.chunk1 (chunkN (to - q.2.2).toNat)).blocks.length (((((q.2.1.chunk1 (chunkN (to - q.2.2).toNat)).chunk2).astores q.2.2 (((chunkN (to - q.2.2).toNat) : Int) - 7) 8).put (iBin 4 1 1 2)).put (iBin 14 4 1 3)).blocks.length)) (bFam (((((((q.2.1.chunk1 (chunkN (to - q.2.2).toNat)).chunk2).astores q.2.2 (((chunkN (to - q.2.2).toNat) : Int) - 7) 8).put (iBin 4 1 1 2)).put (iBin 14 4 1 3)).opened.fork 4 (q.2.1.chunk1 (chunkN (to - q.2.2).toNat)).blocks.length (((((q.2.1.chunk1 (chunkN (to - q.2.2).toNat)).chunk2).astores q.2.2 (((chunkN (to - q.2.2).toNat) : Int) - 7) 8).put (iBin 4 1 1 2)).put (iBin 14 4 1 3)).blocks.length)).blocks) rfl Try.func48 (by kernel_rfl) rfl rfl rfl rfl rfl (by decide) (bL_avoid C w _) (bL_avoid C w _) z30q z8q (fun x => bFam_avoid _ x) (fun x => bFam_avoid _ x) rfl (bfork_ok C w ((((((q.2.1.chunk1 (chunkN (to - q.2.2).toNat)).chunk2).astores q.2.2 (((chunkN (to - q.2.2).toNat) : Int) - 7) 8).put (iBin 4 1 1 2)).put (iBin 14 4 1 3)).opened) y11 hy11 4 (q.2.1.chunk1 (chunkN (to - q.2.2).toNat)).blocks.length (((((q.2.1.chunk1 (chunkN (to - q.2.2).toNat)).chunk2).astores q.2.2 (((chunkN (to - q.2.2).toNat) : Int) - 7) 8).put (iBin 4 1 1 2)).put (iBin 14 4 1 3)).blocks.length)) ?_
    refine an ?_;refine asr ?_;refine am 65 ?_;refine am 66 ?_;refine aq 67 (q_nilCheck rfl rfl rfl) ?_;refine af 68 tok ?_;refine AOps.w rfl rfl (o_store tok rfl rfl rfl rfl rfl rfl rfl rfl rfl (by decide) rfl z40q) ?_;refine an ?_;refine AGo.sub (s' := ⟨80, (eput (eput (eput (eput (eput (eput eNew 0 (.ptr 2 1 0 0)) 1 (.int .i64 q.2.2)) 2 (.int .i64 to)) 6 (.int .i64 ((chunkN (to - q.2.2).toNat) : Int))) 7 (.int .i64 ((q.2.1.chunk1 (chunkN (to - q.2.2).toNat)).blocks.length : Int))) 9 (.int .i64 ((((((q.2.1.chunk1 (chunkN (to - q.2.2).toNat)).chunk2).astores q.2.2 (((chunkN (to - q.2.2).toNat) : Int) - 7) 8).put (iBin 4 1 1 2)).put (iBin 14 4 1 3)).blocks.length : Int))), (fam (nb [.free, .free, (.row false 6 [bCell C w (q.2.1.chunk q.2.2 (chunkN (to - q.2.2).toNat))]), (.row false 5 (bRows ((q.2.1.chunk q.2.2 (chunkN (to - q.2.2).toNat))).blocks))]) (bFam ((q.2.1.chunk q.2.2 (chunkN (to - q.2.2).toNat))).blocks))⟩) (Sub.mk' z34q (famSub (k0 := 4) rfl z21q z8q (fun c h1 h2 => by rcases (by omega : c = 4 ∨ c = 5 ∨ c = 6 ∨ c = 7 ∨ c = 8 ∨ c = 9 ∨ c = 10 ∨ c = 11 ∨ c = 12 ∨ c = 13 ∨ c = 14 ∨ c = 15) with rfl | rfl | rfl | rfl | rfl | rfl | rfl | rfl | rfl | rfl | rfl | rfl <;> first | rfl | (try simp only [hputs]; repeat (first | rfl | refine hput_skip (by exact beq_false_of_ne (by omega)) ?_ | refine hrm_skip (by omega) ?_))))) ?_
    refine AGo.region ?_;refine am 69 ?_;refine am 70 ?_;refine aq 71 (q_bin (r := .int .i64 (q.2.2 + ((chunkN (to - q.2.2).toNat) : Int))) rfl rfl rfl z29q) ?_;refine aa 1 ?_;refine an ?_;exact ⟨(q.1 - 1, (q.2.1.chunk q.2.2 (chunkN (to - q.2.2).toNat)), q.2.2 + ((chunkN (to - q.2.2).toNat) : Int)), DropK.mk' z31q (famDrop (k0 := 4) rfl z21q z23q (fun x_ => bFam_avoid _ x_)), hN, (hQ.i.next hn64).2⟩
  ·
   refine acf ?_
   have hn64 : ¬ 64 < (to - q.2.2).toNat := by have h := hb2; simp at h; omega
   have hlast := hQ.i.last hn64
   have hc0 := hQ.cnt
   have hqa := hQ.a0
   have hqt := hQ.a1
   refine AGo.exit ?_
   refine AGo.block ?_
   refine AGo.loopK (γ := Nat) (kf 4) (fun j => ⟨80, (eput (eput (eput eNew 0 (.ptr 2 1 0 0)) 1 (.int .i64 (q.2.2 + (j : Int)))) 2 (.int .i64 to)), (fam (nb [.free, .free, (.row false 6 [bCell C w (q.2.1.zeros q.2.2 j)]), (.row false 5 (bRows ((q.2.1.zeros q.2.2 j)).blocks))]) (bFam ((q.2.1.zeros q.2.2 j)).blocks))⟩) (fun j => q.2.2 + (j : Int) ≤ to) (fun j => (to - (q.2.2 + (j : Int))).toNat) 0 (Sub.mk' (by repeat (first | exact ESub.new _ | refine ESub.put ?_ (by first | rfl | exact congrArg (fun n => some (AV.int .i64 n)) (by omega)))) (famSub (k0 := 4) rfl z21q z23q (fun c h1 h2 => by rcases (by omega : c = 4 ∨ c = 5 ∨ c = 6 ∨ c = 7 ∨ c = 8 ∨ c = 9 ∨ c = 10 ∨ c = 11 ∨ c = 12 ∨ c = 13 ∨ c = 14 ∨ c = 15) with rfl | rfl | rfl | rfl | rfl | rfl | rfl | rfl | rfl | rfl | rfl | rfl <;> first | rfl | (try simp only [hputs]; repeat (first | rfl | refine hput_skip (by exact beq_false_of_ne (by omega)) ?_ | refine hrm_skip (by omega) ?_))))) (by omega) (fun g b hb => famFree (k0 := 4) rfl hb) ?_
   intro j hj
   refine AGo.seq ?_
   refine asr ?_
   refine am 72 ?_
   refine am 73 ?_
   refine aqb ?_
   refine an ?_
   refine AGo.split 74 rfl (fun hb4 => ?_) (fun hb4 => ?_)
   ·
    refine act ?_
    have hjt : q.2.2 + (j : Int) < to := by have h := hb4; simpa using h
    obtain ⟨z, hz⟩ := cur_zeros hQ.cur q.2.2 j
    have cz := cnt_zeros hQ.cur q.2.2 j
    refine AGo.skip ?_;refine AGo.seq ?_;refine AGo.block ?_;refine AGo.region ?_;refine am 77 ?_;refine am 78 ?_;refine AOps.call 79 (hn := putR 2 _ (RH (bL C w ((q.2.1.zeros q.2.2 j).put (iStore (q.2.2 + (j : Int)) 0))) (bFam (((q.2.1.zeros q.2.2 j).put (iStore (q.2.2 + (j : Int)) 0))).blocks))) (r := .tup []) rfl rfl rfl (o_callRH 2 (bL C w (q.2.1.zeros q.2.2 j)) (bL C w ((q.2.1.zeros q.2.2 j).put (iStore (q.2.2 + (j : Int)) 0))) (bFam (((q.2.1.zeros q.2.2 j).put (iStore (q.2.2 + (j : Int)) 0))).blocks) rfl Try.func49 (by kernel_rfl) rfl rfl rfl rfl rfl (by decide) (bL_avoid C w _) (bL_avoid C w _) z30q z8q (fun x => bFam_avoid _ x) (fun x => bFam_avoid _ x) rfl (bstore_ok C w (q.2.1.zeros q.2.2 j) z hz (by omega) (q.2.2 + (j : Int)) 0)) ?_;refine an ?_;refine AGo.region ?_;refine am 75 ?_;refine aq 76 (q_bin (r := .int .i64 (q.2.2 + ((j + 1 : Nat) : Int))) rfl rfl rfl z26q) ?_;refine aa 1 ?_
    refine an ?_;exact ⟨j+1, DropK.mk' z31q (famDrop (k0 := 4) rfl z21q z23q (fun x_ => bFam_avoid _ x_)), (by omega), by omega⟩
   ·
    refine acf ?_
    have hjt : j = (to - q.2.2).toNat := by have h := hb4; simp at h; omega
    subst hjt
    rw [← hlast]
    refine AGo.exit ?_;exact ⟨[], trivial, rfl, (rh_sub rfl (by decide) z30q z8q)⟩
set_option maxHeartbeats 4000000 in
set_option maxRecDepth 100000 in
theorem buildOf_ok (C : Core) (hC : C.Ok) (hr : CoreB C) (hok : ∀ (i : Nat) g, C.funcs[i]? = some g → CS.okL C i g.word g.body) (hp : ∀ g ∈ C.funcs, CS.partsL g.body ≤ 1000000) : APure Try.prog 14 [.agg C.cells] (fun r => r = .agg C.build.cells) := by
 have hn1 := hr.n1
 have hw0 := hr.w0
 have hw1 := hr.w1
 have hml : (C.funcs.map CFn.cells).length = C.funcs.length := List.length_map _
 refine APure.of_body (n := 84) tok Try.func14 rfl rfl ?_
 refine asr ?_
 refine ax 1 (o_box (sz := 2) 0 rfl rfl rfl rfl (Nat.zero_lt_succ _) rfl) ?_
 refine ax 2 (o_alloc tok 1 rfl rfl rfl rfl (Nat.zero_lt_succ _) rfl) ?_
 refine an ?_
 refine asr ?_
 refine af 9 tok ?_
 refine al 10 tok ?_
 refine aq 11 (q_build tok rfl rfl rfl rfl rfl (by decide) rfl rfl rfl) ?_
 refine ax 3 (o_alloc tok 4 rfl rfl rfl rfl (Nat.zero_lt_succ _) rfl) ?_
 refine AOps.w rfl rfl (o_store tok rfl rfl rfl rfl rfl rfl rfl rfl rfl (by decide) rfl z40q) ?_
 refine an ?_
 refine AGo.seq ?_
 refine asr ?_
 refine af 12 tok ?_
 refine al 13 tok ?_
 refine aq 14 (q_len tok rfl rfl rfl rfl rfl) ?_
 refine am 15 ?_
 refine an ?_
 refine AGo.block ?_
 refine AGo.loopK (γ := Nat) (kf 5) (fun k => ⟨84, (eput (eput (eput (eput (eput (eput eNew 1 (.ptr 0 1 0 0)) 2 (.ptr 1 1 0 0)) 3 (.ptr 4 1 0 0)) 13 (.lst false (C.funcs.map CFn.cells))) 14 (.int .i64 ((C.funcs.map CFn.cells).length : Int))) 15 (.int .i64 (k : Int))), (fam (nb [(.row false 2 [C.cells]), (.row false 2 [[.int .i64 0, .nil]]), .free, .free, (.row false 2 [[.int .i64 (mW C k), .nil]])]) fFree)⟩) (fun k => k ≤ C.funcs.length) (fun k => C.funcs.length - k) 0 (Sub.mk' z34q (famSub (k0 := 5) rfl (by repeat (first | exact trivial | refine ⟨⟨by rfl, by first | rfl | exact outerC_avoid _ _ _ _⟩, ?_⟩)) (fun x_ => by (try simp only [hputs]); repeat (first | rfl | exact fam_hi _ _ _ | refine hput_skip (by exact beq_false_of_ne (by omega)) ?_)) (fun c h1 h2 => by rcases (by omega : c = 5 ∨ c = 6 ∨ c = 7 ∨ c = 8 ∨ c = 9 ∨ c = 10 ∨ c = 11 ∨ c = 12 ∨ c = 13 ∨ c = 14 ∨ c = 15) with rfl | rfl | rfl | rfl | rfl | rfl | rfl | rfl | rfl | rfl | rfl <;> first | rfl | (try simp only [hputs]; repeat (first | rfl | refine hput_skip (by exact beq_false_of_ne (by omega)) ?_ | refine hrm_skip (by omega) ?_))))) (Nat.zero_le _) (fun g b hb => famFree (k0 := 5) rfl hb) ?_
 intro k hk
 refine asr ?_
 refine aqb ?_
 refine an ?_
 refine AGo.seq ?_
 refine AGo.split 16 rfl (fun hb1 => ?_) (fun hb1 => ?_)
 ·
  refine act ?_
  have hkl : k < C.funcs.length := lt_of_idx hb1
  obtain ⟨g, hg⟩ := get_of_lt hkl
  refine AGo.skip ?_
  refine AGo.seq ?_
  refine AGo.block ?_
  refine asr ?_
  refine aq 17 (q_index_lst tok rfl rfl rfl rfl rfl rfl (Int.natCast_nonneg _) (idx_map (by assumption)) rfl) ?_
  refine al 18 tok ?_
  refine ax 5 (o_alloc tok 6 rfl rfl rfl rfl (Nat.zero_lt_succ _) rfl) ?_
  refine AOps.w rfl rfl (o_store tok rfl rfl rfl rfl rfl rfl rfl rfl rfl (by decide) rfl z40q) ?_
  refine an ?_
  refine asr ?_
  refine af 19 tok ?_
  refine al 20 tok ?_
  refine an ?_
  refine AGo.split 20 rfl (fun hb2 => ?_) (fun hb2 => ?_)
  ·
   refine act ?_
   have hmw := mW_yes hg hb2
   refine AGo.region ?_
   refine af 21 tok ?_
   refine al 22 tok ?_
   refine aq 23 (q_bin (r := .int .i64 (C.words + 1)) rfl rfl rfl z29q) ?_
   refine af 24 tok ?_
   refine AOps.w rfl rfl (o_store tok rfl rfl rfl rfl rfl rfl rfl rfl rfl (by decide) rfl z40q) ?_
   refine an ?_
   refine AGo.region ?_
   refine aq 25 (q_inc rfl rfl hkl (by simp only [maxLen]; omega)) ?_
   refine am 15 ?_
   refine an ?_
   exact ⟨k+1, DropK.mk' z31q (famDrop (k0 := 5) rfl (by repeat (first | exact trivial | refine ⟨⟨by first | rfl | (rw [hmw]; rfl), by first | rfl | exact outerC_avoid _ _ _ _⟩, ?_⟩)) z19q (fun _ => rfl)), hkl, by omega⟩
  ·
   refine acf ?_
   have hmw := mW_no hg hb2
   refine AGo.skip ?_
   refine AGo.region ?_
   refine aq 25 (q_inc rfl rfl hkl (by simp only [maxLen]; omega)) ?_
   refine am 15 ?_
   refine an ?_
   exact ⟨k+1, DropK.mk' z31q (famDrop (k0 := 5) rfl (by repeat (first | exact trivial | refine ⟨⟨by first | rfl | (rw [hmw]; rfl), by first | rfl | exact outerC_avoid _ _ _ _⟩, ?_⟩)) z19q (fun _ => rfl)), hkl, by omega⟩
 ·
  refine acf ?_
  have hge := ge_of_idx hb1
  have hmw := mW_all hge
  refine AGo.exit ?_
  refine AGo.seq ?_
  refine AGo.seq ?_
  rw [hmw]
  refine AGo.ghost (Ghost.weakRowF 4 (es' := [[.int .i64 C.m, slA 5 []]]) rfl rfl (wk_made _ 5)) ?_
  refine AGo.region ?_
  refine af 26 tok ?_
  refine al 27 tok ?_
  refine aq 28 (q_len tok rfl rfl rfl rfl rfl) ?_
  refine am 29 ?_
  refine an ?_
  refine AGo.block ?_
  refine AGo.loopK (γ := Nat) kB (fun k => ⟨84, (eput (eput (eput (eput (eput (eput eNew 1 (.ptr 0 1 0 0)) 2 (.ptr 1 1 0 0)) 3 (.ptr 4 1 0 0)) 27 (.lst false (C.funcs.map CFn.cells))) 28 (.int .i64 ((C.funcs.map CFn.cells).length : Int))) 29 (.int .i64 (k : Int))), (hB (.row false 2 [C.cells]) (.row false 2 [[.int .i64 0, .nil]]) (.row false 2 [[.int .i64 C.m, slA 5 (bT C k)]]) (slO 2 (bT C k)))⟩) (fun k => k ≤ C.funcs.length) (fun k => C.funcs.length - k) 0 (Sub.mk' z34q (famSub (k0 := 6) rfl (by repeat (first | exact trivial | refine ⟨⟨by first | rfl | (rw [mW_zero]; rfl) | (rw [hmw]; rfl), by first | rfl | exact rowF_avoid rfl | exact slO_avoid _ _⟩, ?_⟩)) z19q (fun c h1 h2 => by rcases (by omega : c = 6 ∨ c = 7 ∨ c = 8 ∨ c = 9 ∨ c = 10 ∨ c = 11 ∨ c = 12 ∨ c = 13 ∨ c = 14 ∨ c = 15) with rfl | rfl | rfl | rfl | rfl | rfl | rfl | rfl | rfl | rfl <;> first | rfl | (try simp only [hputs]; repeat (first | rfl | refine hput_skip (by exact beq_false_of_ne (by omega)) ?_ | refine hrm_skip (by omega) ?_))))) (Nat.zero_le _) (fun k => hB_free _ _ _ _) ?_
  intro k hk
  refine asr ?_
  refine aqb ?_
  refine an ?_
  refine AGo.seq ?_
  refine AGo.split 30 rfl (fun hb3 => ?_) (fun hb3 => ?_)
  ·
   refine act ?_
   have hkl : k < C.funcs.length := lt_of_idx hb3
   obtain ⟨g, hg⟩ := get_of_lt hkl
   have hgm := List.mem_of_getElem? hg
   have hgk := hC.funcs g hgm
   have hgo := hok k g hg
   have hgp := hp g hgm
   obtain ⟨f1, f2, f3, f4, f5⟩ := hr.fn g hgm
   refine AGo.skip ?_
   refine AGo.seq ?_
   refine AGo.block ?_
   refine asr ?_
   refine am 31 ?_
   refine aq 32 (q_index_lst tok rfl rfl rfl rfl rfl rfl (Int.natCast_nonneg _) (idx_map (by assumption)) rfl) ?_
   refine al 33 tok ?_
   refine ax 7 (o_alloc tok 6 rfl rfl rfl rfl (Nat.zero_lt_succ _) rfl) ?_
   refine aa 6 ?_
   refine AOps.w rfl rfl (o_store tok rfl rfl rfl rfl rfl rfl rfl rfl rfl (by decide) rfl z40q) ?_
   refine an ?_
   refine asr ?_
   refine af 34 tok ?_
   refine al 35 tok ?_
   refine af 36 tok ?_
   refine al 37 tok ?_
   refine af 38 tok ?_
   refine al 39 tok ?_
   refine aq 40 (q_build tok rfl rfl rfl rfl rfl (by decide) rfl rfl rfl) ?_
   refine ax 41 (o_box (sz := 6) 2 rfl rfl rfl rfl (Nat.zero_lt_succ _) rfl) ?_
   refine aa 8 ?_
   refine an ?_
   refine AGo.seq ?_
   refine AGo.ghost (.dryCell 2 0 4 3 5 false rfl rfl rfl rfl rfl (by decide)) ?_
   refine AGo.region ?_
   refine am 42 ?_
   refine AOps.call 43 (hn := putR 2 _ (RH (bL C g.word bd0) (bFam (bd0).blocks))) (r := .int .i64 0) rfl rfl rfl (o_callRH 2 (bL C g.word (⟨0, [], 0⟩ : Bd)) (bL C g.word bd0) (bFam (bd0).blocks) rfl Try.func28 (by kernel_rfl) rfl rfl rfl rfl rfl (by decide) (bL_avoid C g.word _) (bL_avoid C g.word _) z30q z8q (fun x => bFam_avoid _ x) (fun x => bFam_avoid _ x) rfl (bopen_ok C g.word (⟨0, [], 0⟩ : Bd) (by decide))) ?_
   refine an ?_
   refine AGo.seq ?_
   refine asr ?_
   refine am 44 ?_
   refine af 45 tok ?_
   refine al 46 tok ?_
   refine aq 47 (q_len tok rfl rfl rfl rfl rfl) ?_
   refine aq 48 (q_bin (r := .int .i64 (((C.funcs.map CFn.cells).length : Int) - 1)) rfl rfl rfl z29q) ?_
   refine aqb ?_
   refine an ?_
   refine AGo.join (γ := Bd) (fun q => ⟨84, (eput (eput (eput (eput (eput (eput (eput (eput (eput eNew 1 (.ptr 0 1 0 0)) 2 (.ptr 1 1 0 0)) 3 (.ptr 4 1 0 0)) 6 (.int .i64 (k : Int))) 7 (.ptr 6 1 0 0)) 8 (.ptr 2 1 0 0)) 27 (.lst false (C.funcs.map CFn.cells))) 28 (.int .i64 ((C.funcs.map CFn.cells).length : Int))) 29 (.int .i64 (k : Int))), (fam (nb [(.row false 2 [C.cells]), (.row false 2 [[.int .i64 0, .nil]]), (.row false 6 [bCell C g.word q]), (.row false 5 (bRows (q).blocks)), (.row false 2 [[.int .i64 C.m, slA 5 (bT C k)]]), (slO 2 (bT C k)), (.row false 5 [g.cells])]) (bFam (q).blocks))⟩) (fun q => q = fnStart C g (k + 1 == C.funcs.length)) ?_ ?_
   ·
    refine AGo.split 49 rfl (fun hb4 => ?_) (fun hb4 => ?_)
    ·
     refine act ?_
     have hlast : (k + 1 == C.funcs.length) = false := by have h := hb4; simp at h ⊢; omega
     refine AGo.region ?_;refine am 50 ?_;refine af 51 tok ?_;refine al 52 tok ?_;refine af 53 tok ?_;refine al 54 tok ?_;refine aq 55 (q_bin (r := .int .i64 (g.first + g.params)) rfl rfl rfl z29q) ?_;refine af 56 tok ?_;refine al 57 tok ?_;refine af 58 tok ?_;refine al 59 tok ?_;refine aq 60 (q_bin (r := .int .i64 (g.first + g.slots)) rfl rfl rfl z29q) ?_;refine AOps.call 61 (hn := putR 2 _ (RH (bL C g.word (bd0.nought (g.first + g.params) (g.first + g.slots - (g.first + g.params)).toNat)) (bFam ((bd0.nought (g.first + g.params) (g.first + g.slots - (g.first + g.params)).toNat)).blocks))) (r := .tup []) rfl rfl rfl (o_callRH 2 (bL C g.word bd0) (bL C g.word (bd0.nought (g.first + g.params) (g.first + g.slots - (g.first + g.params)).toNat)) (bFam ((bd0.nought (g.first + g.params) (g.first + g.slots - (g.first + g.params)).toNat)).blocks) rfl Try.func29 (by kernel_rfl) rfl rfl rfl rfl rfl (by decide) (bL_avoid C g.word _) (bL_avoid C g.word _) z30q z8q (fun x => bFam_avoid _ x) (fun x => bFam_avoid _ x) rfl (bnought_ok C g.word bd0 (g.first + g.params) (g.first + g.slots) cur0 (by omega) (by omega) (by omega) (by omega) (by rw [cnt0]; omega))) ?_
     refine an ?_;exact ⟨(bd0.nought (g.first + g.params) (g.first + g.slots - (g.first + g.params)).toNat), Sub.mk' z34q (famSub (k0 := 7) rfl (by repeat (first | exact trivial | refine ⟨⟨by first | rfl | exact putR_yes rfl, by first | rfl | exact bRows_avoid (fun x_ => kf_hi 7 x_) _ | exact rowF_avoid rfl | exact slO_avoid _ _⟩, ?_⟩)) z8q (fun c h1 h2 => by rcases (by omega : c = 7 ∨ c = 8 ∨ c = 9 ∨ c = 10 ∨ c = 11 ∨ c = 12 ∨ c = 13 ∨ c = 14 ∨ c = 15) with rfl | rfl | rfl | rfl | rfl | rfl | rfl | rfl | rfl <;> first | rfl | (try simp only [hputs]; repeat (first | rfl | refine hput_skip (by exact beq_false_of_ne (by omega)) ?_ | refine hrm_skip (by omega) ?_)))), (by unfold fnStart; rw [hlast]; show bd0.nought _ _ = bd0.nought _ _; congr 2; omega)⟩
    ·
     refine acf ?_
     have hlast : (k + 1 == C.funcs.length) = true := by have h := hb4; simp at h ⊢; omega
     refine AGo.skip ?_;exact ⟨bd0, Sub.mk' z34q (famSub (k0 := 7) rfl (by repeat (first | exact trivial | refine ⟨⟨by first | rfl | exact putR_yes rfl, by first | rfl | exact bRows_avoid (fun x_ => kf_hi 7 x_) _ | exact rowF_avoid rfl | exact slO_avoid _ _⟩, ?_⟩)) z8q (fun c h1 h2 => by rcases (by omega : c = 7 ∨ c = 8 ∨ c = 9 ∨ c = 10 ∨ c = 11 ∨ c = 12 ∨ c = 13 ∨ c = 14 ∨ c = 15) with rfl | rfl | rfl | rfl | rfl | rfl | rfl | rfl | rfl <;> first | rfl | (try simp only [hputs]; repeat (first | rfl | refine hput_skip (by exact beq_false_of_ne (by omega)) ?_ | refine hrm_skip (by omega) ?_)))), (by unfold fnStart; rw [hlast]; rfl)⟩
   intro q hq
   have hqp : Pl q := by rw [hq]; exact fnStart_pl _ _ _
   have hqc : q.cnt ≤ 2 + (g.slots - g.params).toNat := by rw [hq]; exact fnStart_cnt _ _ _
   have hcs := cnt_stmts (C := C) (w := g.word) (l := g.body) (fun e _ => cnt_stmt e.parts e (Nat.le_refl _)) q
   obtain ⟨z, hz⟩ := (stmts_pl hgo hqp).cur
   have hfb : fnBuild C g (k + 1 == C.funcs.length) = ⟨((CS.buildL C g.word g.body q).leave C g.word).regs, ((CS.buildL C g.word g.body q).leave C g.word).blocks⟩ := by rw [hq]; rfl
   have hbt := bT_next hg
   rw [hfb] at hbt
   refine asr ?_
   refine am 62 ?_
   refine af 63 tok ?_
   refine al 64 tok ?_
   refine AOps.call 65 (hn := putR 2 _ (RH (bL C g.word (CS.buildL C g.word g.body q)) (bFam ((CS.buildL C g.word g.body q)).blocks))) (r := .tup []) rfl rfl rfl (o_callRH 2 (bL C g.word q) (bL C g.word (CS.buildL C g.word g.body q)) (bFam ((CS.buildL C g.word g.body q)).blocks) rfl Try.func30 (by kernel_rfl) rfl rfl rfl rfl rfl (by decide) (bL_avoid C g.word _) (bL_avoid C g.word _) z30q z8q (fun x => bFam_avoid _ x) (fun x => bFam_avoid _ x) rfl (bstmts_of C g.word k g.body (fun x hx b hP hc => bstmt_ok C g.word k hr x.parts x (Nat.le_refl _) (sokL_mem hgo hx) (hgk.body x hx) b hP hc) hgo hgk.len q hqp (by omega))) ?_
   refine an ?_
   refine asr ?_
   refine am 66 ?_
   refine AOps.call 67 (hn := putR 2 _ (RH (bL C g.word ((CS.buildL C g.word g.body q).leave C g.word)) (bFam (((CS.buildL C g.word g.body q).leave C g.word)).blocks))) (r := .tup []) rfl rfl rfl (o_callRH 2 (bL C g.word (CS.buildL C g.word g.body q)) (bL C g.word ((CS.buildL C g.word g.body q).leave C g.word)) (bFam (((CS.buildL C g.word g.body q).leave C g.word)).blocks) rfl Try.func31 (by kernel_rfl) rfl rfl rfl rfl rfl (by decide) (bL_avoid C g.word _) (bL_avoid C g.word _) z30q z8q (fun x => bFam_avoid _ x) (fun x => bFam_avoid _ x) rfl (bleave_ok C g.word (CS.buildL C g.word g.body q) z hz (by omega))) ?_
   refine an ?_
   refine AGo.ghost (Ghost.endBd C g.word ((CS.buildL C g.word g.body q).leave C g.word) (putR_yes rfl) (putR_yes rfl) (fun x_ => (putR_hi _ _ _ x_).trans (fam_hi _ _ _))) ?_
   refine AGo.draw mix ?_
   refine df 68 tok ?_
   refine dl 69 tok ?_
   refine dm 70 ?_
   refine dq 71 (q_nilCheck rfl rfl rfl) ?_
   refine df 72 tok ?_
   refine dl 73 tok ?_
   refine dm 74 ?_
   refine dq 75 (q_nilCheck rfl rfl rfl) ?_
   refine df 76 tok ?_
   refine dl 77 tok ?_
   refine dq 78 (q_build tok rfl rfl rfl rfl rfl (by decide) rfl rfl rfl) ?_
   refine dx 79 (o_lit' tok rfl rfl rfl rfl rfl rfl (by decide) rfl rfl rfl rfl rfl rfl) ?_
   refine dx 80 (o_append1J tok (b := 5) (es := bT C k) rfl rfl rfl rfl rfl rfl rfl rfl rfl rfl rfl (Nat.zero_lt_succ _) (bT_len2 C k) (bT_pure C k) rfl rfl (by have := bT_len C k; show (_ + 1) * 32 ≤ _; omega) (by have := bT_len C k; simp only [maxLen]; omega)) ?_
   refine df 81 tok ?_
   refine DOps.w rfl rfl (o_store1 tok rfl rfl rfl rfl rfl rfl rfl rfl rfl (slA_cells _ _) (by decide) (slA_cell1 _ _) (by intro h; cases h)) ?_
   refine DOps.nil (by kernel_rfl) ?_
   refine AGo.region ?_
   refine aq 82 (q_inc rfl rfl hkl (by simp only [maxLen]; omega)) ?_
   refine am 29 ?_
   refine an ?_
   exact ⟨k+1, DropK.mk' z31q (hB_drop z15q z15q (by first | exact congrArg (fun es => some (AObj.row false 2 [[.int .i64 C.m, slA 5 es]])) hbt | ((try simp only [hputs]); repeat (first | rfl | exact hput_same _ _ _ | refine hput_skip (by exact beq_false_of_ne (by omega)) ?_ | refine hrm_skip (by omega) ?_ | refine (famW_out _ (fun i_ _ => by first | omega | (dsimp only; omega))).trans ?_))) (by first | exact congrArg (fun es => some (slO 2 es)) hbt | ((try simp only [hputs]); repeat (first | rfl | exact hput_same _ _ _ | refine hput_skip (by exact beq_false_of_ne (by omega)) ?_ | refine hrm_skip (by omega) ?_ | refine (famW_out _ (fun i_ _ => by first | omega | (dsimp only; omega))).trans ?_))) rfl rfl (rowF_avoid rfl) (slO_avoid _ _)), hkl, by omega⟩
  ·
   refine acf ?_
   have hge := ge_of_idx hb3
   refine AGo.exit ?_
   refine AGo.seq ?_
   refine AGo.ghost (.endCell 4 1 5 rfl rfl rfl (by decide)) ?_
   rw [bT_all hge]
   refine AGo.region ?_
   refine al 83 tok ?_
   refine AOps.w rfl rfl (o_store tok rfl rfl rfl rfl rfl rfl rfl rfl rfl (by decide) rfl z40q) ?_
   refine an ?_
   refine AGo.ret ?_
   refine ⟨[_], ⟨⟨_, _, _, _, rfl, rfl, .ptr _ _ _ _ _ _ _ _ rfl rfl rfl, rfl⟩, trivial⟩, ?_, rfl⟩
   rfl
set_option maxRecDepth 100000 in
theorem within19_ok (C : Core) (a n : Int) (h0 : 0 ≤ C.words) (h1 : C.words ≤ 1000000) : APure Try.prog 62 [.agg C.cells, .int .i64 a, .int .i64 n] (fun r => r = .bool (winC C a n)) := by
 refine APure.of_body (n := 27) tok Try.func62 rfl rfl ?_
 refine asr ?_
 refine ax 3 (o_box (sz := 2) 0 rfl rfl rfl rfl (Nat.zero_lt_succ _) rfl) ?_
 refine aa 6 ?_
 refine an ?_
 refine asr ?_
 refine am 7 ?_
 refine aqb ?_
 refine am 9 ?_
 refine AOps.split 9 rfl (fun hb1 => ?_) (fun hb1 => ?_)
 ·
  refine am 10 ?_
  refine aqb ?_
  refine apt ?_
  refine am 13 ?_
  refine AOps.split 13 rfl (fun hb2 => ?_) (fun hb2 => ?_)
  ·
   refine am 14 ?_
   refine af 15 tok ?_
   refine al 16 tok ?_
   refine aqb ?_
   refine apt ?_
   refine am 19 ?_
   refine AOps.split 19 rfl (fun hb3 => ?_) (fun hb3 => ?_)
   ·
    refine am 20 ?_;refine af 21 tok ?_;refine al 22 tok ?_;refine am 23 ?_;refine aqb ?_;refine aqb ?_;refine apt ?_;refine aa 6 ?_;refine an ?_;refine AGo.ret ?_;refine ⟨[_], ⟨rfl, trivial⟩, ?_, rfl⟩
    show AV.bool _ = AV.bool _
    congr 1
    unfold winC
    have hwr : 0 ≤ a → a ≤ C.words → IntKind.i64.wrap (C.words - a) = C.words - a := fun g1 g2 => wrap_i64 (by omega) (by omega)
    simp_all <;> omega
   ·
    iterate 6 refine ak _ ?_
    refine apf ?_;refine aa 6 ?_;refine an ?_;refine AGo.ret ?_;refine ⟨[_], ⟨rfl, trivial⟩, ?_, rfl⟩
    show AV.bool _ = AV.bool _
    congr 1
    unfold winC
    have hwr : 0 ≤ a → a ≤ C.words → IntKind.i64.wrap (C.words - a) = C.words - a := fun g1 g2 => wrap_i64 (by omega) (by omega)
    simp_all <;> omega
  ·
   iterate 4 refine ak _ ?_
   refine apf ?_
   refine am 19 ?_
   iterate 6 refine ak _ ?_
   refine apf ?_
   refine aa 6 ?_
   refine an ?_
   refine AGo.ret ?_
   refine ⟨[_], ⟨rfl, trivial⟩, ?_, rfl⟩
   show AV.bool _ = AV.bool _
   congr 1
   unfold winC
   have hwr : 0 ≤ a → a ≤ C.words → IntKind.i64.wrap (C.words - a) = C.words - a := fun g1 g2 => wrap_i64 (by omega) (by omega)
   simp_all <;> omega
 ·
  iterate 2 refine ak _ ?_
  refine apf ?_
  refine am 13 ?_
  iterate 4 refine ak _ ?_
  refine apf ?_
  refine am 19 ?_
  iterate 6 refine ak _ ?_
  refine apf ?_
  refine aa 6 ?_
  refine an ?_
  refine AGo.ret ?_
  refine ⟨[_], ⟨rfl, trivial⟩, ?_, rfl⟩
  show AV.bool _ = AV.bool _
  congr 1
  unfold winC
  have hwr : 0 ≤ a → a ≤ C.words → IntKind.i64.wrap (C.words - a) = C.words - a := fun g1 g2 => wrap_i64 (by omega) (by omega)
  simp_all <;> omega
set_option maxRecDepth 100000 in
theorem callee19_ok (C : Core) (f g args : Int) (word : Bool) (h0 : 0 ≤ g → g < f → ∃ fn, C.funcs[g.toNat]? = some fn) : APure Try.prog 85 [.agg C.cells, .int .i64 f, .int .i64 g, .int .i64 args, .bool word] (fun r => r = .bool (calleeC C f g args word)) := by
 refine APure.of_body (n := 38) tok Try.func85 rfl rfl ?_
 refine asr ?_
 refine ax 5 (o_box (sz := 2) 0 rfl rfl rfl rfl (Nat.zero_lt_succ _) rfl) ?_
 refine aa 10 ?_
 refine an ?_
 refine asr ?_
 refine am 11 ?_
 refine aqb ?_
 refine am 13 ?_
 refine AOps.split 13 rfl (fun hb1 => ?_) (fun hb1 => ?_)
 ·
  refine am 14 ?_
  refine am 15 ?_
  refine aqb ?_
  refine apt ?_
  refine am 18 ?_
  refine AOps.split 18 rfl (fun hb2 => ?_) (fun hb2 => ?_)
  ·
   have hg0 : 0 ≤ g := by have h := hb1; simp at h; omega
   have hg1 : g < f := by have h := hb2; simp at h; omega
   obtain ⟨fn, hfn⟩ := h0 hg0 hg1
   refine af 19 tok ?_
   refine al 20 tok ?_
   refine am 21 ?_
   refine aq 22 (q_index_lst tok rfl rfl rfl rfl rfl rfl hg0 (idx_map2 hfn) rfl) ?_
   refine af 23 tok ?_
   refine al 24 tok ?_
   refine am 25 ?_
   refine aq 26 (q_boolEq tok false rfl rfl rfl rfl rfl) ?_
   refine apt ?_
   refine am 28 ?_
   refine AOps.split 28 rfl (fun hb3 => ?_) (fun hb3 => ?_)
   ·
    refine af 29 tok ?_;refine al 30 tok ?_;refine am 31 ?_;refine aq 32 (q_index_lst tok rfl rfl rfl rfl rfl rfl hg0 (idx_map2 hfn) rfl) ?_;refine af 33 tok ?_;refine al 34 tok ?_;refine am 35 ?_;refine aqb ?_;refine apt ?_;refine aa 10 ?_;refine an ?_;refine AGo.ret ?_;refine ⟨[_], ⟨rfl, trivial⟩, ?_, rfl⟩
    show AV.bool _ = AV.bool _
    congr 1
    unfold calleeC
    first | (simp_all; done) | (simp_all <;> omega)
   ·
    iterate 8 refine ak _ ?_
    refine apf ?_;refine aa 10 ?_;refine an ?_;refine AGo.ret ?_;refine ⟨[_], ⟨rfl, trivial⟩, ?_, rfl⟩
    show AV.bool _ = AV.bool _
    congr 1
    unfold calleeC
    first | (simp_all; done) | (simp_all <;> omega)
  ·
   iterate 8 refine ak _ ?_
   refine apf ?_
   refine am 28 ?_
   iterate 8 refine ak _ ?_
   refine apf ?_
   refine aa 10 ?_
   refine an ?_
   refine AGo.ret ?_
   refine ⟨[_], ⟨rfl, trivial⟩, ?_, rfl⟩
   show AV.bool _ = AV.bool _
   congr 1
   unfold calleeC
   first | (simp_all; done) | (simp_all <;> omega)
 ·
  iterate 3 refine ak _ ?_
  refine apf ?_
  refine am 18 ?_
  iterate 8 refine ak _ ?_
  refine apf ?_
  refine am 28 ?_
  iterate 8 refine ak _ ?_
  refine apf ?_
  refine aa 10 ?_
  refine an ?_
  refine AGo.ret ?_
  refine ⟨[_], ⟨rfl, trivial⟩, ?_, rfl⟩
  show AV.bool _ = AV.bool _
  congr 1
  unfold calleeC
  first | (simp_all; done) | (simp_all <;> omega)
set_option maxHeartbeats 1000000 in
set_option maxRecDepth 100000 in
theorem rightE_step (C : Core) (f : Int) (h0 : 0 ≤ C.words) (h1 : C.words ≤ 1000000) (hfs : ∀ g, 0 ≤ g → g < f → ∃ fn, C.funcs[g.toNat]? = some fn) (l : List CE) (level : Int) (hlen : l.length ≤ maxLen) (hl0 : 0 ≤ level) (hl2 : level ≤ 1000) (hrec : level ≤ 24 → ∀ x ∈ l, APure Try.prog 86 [.agg C.cells, .int .i64 f, (.lst false (x.kids.map CE.cells)), .int .i64 (level + 1)] (fun r => r = .bool (CE.rightL C f x.kids (level + 1)))) : APure Try.prog 86 [.agg C.cells, .int .i64 f, (.lst false (l.map CE.cells)), .int .i64 level] (fun r => r = .bool (CE.rightL C f l level)) := by
 refine APure.of_body (n := 147) tok Try.func86 rfl rfl ?_
 refine asr ?_
 refine ax 4 (o_box (sz := 2) 0 rfl rfl rfl rfl (Nat.zero_lt_succ _) rfl) ?_
 refine aa 8 ?_
 refine an ?_
 refine AGo.seq ?_
 refine asr ?_
 refine aa 9 ?_
 refine an ?_
 refine AGo.block ?_
 refine AGo.loopD (γ := Nat) 1 (fun k => ⟨147, (eput (eput (eput (eput (eput eNew 1 (.int .i64 f)) 2 (.lst false (l.map CE.cells))) 3 (.int .i64 level)) 4 (.ptr 0 1 0 0)) 9 (.int .i64 (k : Int))), (hput (hFrom 1) 0 (.row false 2 [C.cells]))⟩) (fun k => (l.take k).all (fun e => e.right C f level) = true) (fun k => l.length - k) 0 (Sub.mk' z34q z13q) rfl (fun _ => hput_free (fun b hb => hFrom_free hb) rfl) ?_
 intro k hk
 refine AGo.seq ?_
 refine asr ?_
 refine am 12 ?_
 refine am 13 ?_
 refine aq 14 (q_len tok rfl rfl rfl rfl rfl) ?_
 refine aqb ?_
 refine an ?_
 refine AGo.split 15 rfl (fun hb1 => ?_) (fun hb1 => ?_)
 ·
  refine act ?_
  have hkl : k < l.length := lt_of_idx hb1
  obtain ⟨x, hx⟩ := get_of_lt hkl
  have hxm := List.mem_of_getElem? hx
  refine AGo.skip ?_
  refine AGo.seq ?_
  refine AGo.block ?_
  refine asr ?_
  refine am 18 ?_
  refine am 19 ?_
  refine aq 20 (q_index_lst tok rfl rfl rfl rfl rfl rfl (Int.natCast_nonneg _) (idxE hx) rfl) ?_
  refine al 21 tok ?_
  refine ax 10 (o_alloc tok 1 rfl rfl rfl rfl (Nat.zero_lt_succ _) rfl) ?_
  refine AOps.w rfl rfl (o_store tok rfl rfl rfl rfl rfl rfl rfl rfl rfl (by decide) rfl z40q) ?_
  refine an ?_
  refine AGo.seq ?_
  refine AGo.seq ?_
  refine AGo.join (γ := Bool) (fun b => ⟨147, (eput (eput (eput (eput (eput (eput (eput eNew 1 (.int .i64 f)) 2 (.lst false (l.map CE.cells))) 3 (.int .i64 level)) 4 (.ptr 0 1 0 0)) 9 (.int .i64 (k : Int))) 10 (.ptr 1 1 0 0)) 73 (.bool b)), (hput (hput (hFrom 2) 0 (.row false 2 [C.cells])) 1 (.row false 6 [x.row]))⟩) (fun b => b = !(decide (level ≤ 24) && x.bare)) ?_ ?_
  ·
   refine AGo.region ?_
   refine am 22 ?_
   refine aqb ?_
   refine am 24 ?_
   refine AOps.split 24 rfl (fun hb2 => ?_) (fun hb2 => ?_)
   ·
    iterate 8 refine ak _ ?_
    refine apt ?_;refine am 34 ?_
    iterate 8 refine ak _ ?_
    refine apt ?_;refine am 44 ?_
    iterate 8 refine ak _ ?_
    refine apt ?_;refine am 54 ?_
    iterate 18 refine ak _ ?_
    refine apt ?_;refine an ?_;exact ⟨_, Sub.mk' z34q z13q, z12q⟩
   ·
    refine af 25 tok ?_;refine al 26 tok ?_;refine aqb ?_;refine am 28 ?_;refine AOps.split 28 rfl (fun hb3 => ?_) (fun hb3 => ?_)
    ·
     refine af 29 tok ?_;refine al 30 tok ?_;refine aqb ?_;refine apt ?_;refine apf ?_;refine am 34 ?_;refine AOps.split 34 rfl (fun hb4 => ?_) (fun hb4 => ?_)
     ·
      iterate 8 refine ak _ ?_
      refine apt ?_;refine am 44 ?_
      iterate 8 refine ak _ ?_
      refine apt ?_;refine am 54 ?_
      iterate 18 refine ak _ ?_
      refine apt ?_;refine an ?_;exact ⟨_, Sub.mk' z34q z13q, z12q⟩
     ·
      refine af 35 tok ?_;refine al 36 tok ?_;refine aqb ?_;refine am 38 ?_;refine AOps.split 38 rfl (fun hb5 => ?_) (fun hb5 => ?_)
      ·
       refine af 39 tok ?_;refine al 40 tok ?_;refine aqb ?_;refine apt ?_;refine apf ?_;refine am 44 ?_;refine AOps.split 44 rfl (fun hb6 => ?_) (fun hb6 => ?_)
       ·
        iterate 8 refine ak _ ?_
        refine apt ?_;refine am 54 ?_
        iterate 18 refine ak _ ?_
        refine apt ?_;refine an ?_;exact ⟨_, Sub.mk' z34q z13q, z12q⟩
       ·
        refine af 45 tok ?_;refine al 46 tok ?_;refine aqb ?_;refine am 48 ?_;refine AOps.split 48 rfl (fun hb7 => ?_) (fun hb7 => ?_)
        ·
         refine af 49 tok ?_;refine al 50 tok ?_;refine aqb ?_;refine apt ?_;refine apf ?_;refine am 54 ?_;refine AOps.split 54 rfl (fun hb8 => ?_) (fun hb8 => ?_)
         ·
          iterate 18 refine ak _ ?_
          refine apt ?_;refine an ?_;exact ⟨_, Sub.mk' z34q z13q, z12q⟩
         ·
          refine af 55 tok ?_;refine al 56 tok ?_;refine aqb ?_;refine am 58 ?_;refine AOps.split 58 rfl (fun hb9 => ?_) (fun hb9 => ?_)
          ·
           refine af 59 tok ?_;refine al 60 tok ?_;refine aqb ?_;refine apt ?_;refine am 63 ?_;refine AOps.split 63 rfl (fun hb10 => ?_) (fun hb10 => ?_)
           ·
            refine af 64 tok ?_;refine al 65 tok ?_;refine aqb ?_;refine apt ?_;refine am 68 ?_;refine AOps.split 68 rfl (fun hb11 => ?_) (fun hb11 => ?_)
            ·
             refine af 69 tok ?_;refine al 70 tok ?_;refine aqb ?_;refine apt ?_;refine apf ?_;refine an ?_;exact ⟨_, Sub.mk' z34q z13q, z12q⟩
            ·
             iterate 3 refine ak _ ?_
             refine apf ?_;refine apf ?_;refine an ?_;exact ⟨_, Sub.mk' z34q z13q, z12q⟩
           ·
            iterate 3 refine ak _ ?_
            refine apf ?_;refine am 68 ?_
            iterate 3 refine ak _ ?_
            refine apf ?_;refine apf ?_;refine an ?_;exact ⟨_, Sub.mk' z34q z13q, z12q⟩
          ·
           iterate 3 refine ak _ ?_
           refine apf ?_;refine am 63 ?_
           iterate 3 refine ak _ ?_
           refine apf ?_;refine am 68 ?_
           iterate 3 refine ak _ ?_
           refine apf ?_;refine apf ?_;refine an ?_;exact ⟨_, Sub.mk' z34q z13q, z12q⟩
        ·
         iterate 3 refine ak _ ?_
         refine apf ?_;refine apf ?_;refine am 54 ?_;refine af 55 tok ?_;refine al 56 tok ?_;refine aqb ?_;refine am 58 ?_;refine AOps.split 58 rfl (fun hb12 => ?_) (fun hb12 => ?_)
         ·
          refine af 59 tok ?_;refine al 60 tok ?_;refine aqb ?_;refine apt ?_;refine am 63 ?_;refine AOps.split 63 rfl (fun hb13 => ?_) (fun hb13 => ?_)
          ·
           refine af 64 tok ?_;refine al 65 tok ?_;refine aqb ?_;refine apt ?_;refine am 68 ?_;refine AOps.split 68 rfl (fun hb14 => ?_) (fun hb14 => ?_)
           ·
            refine af 69 tok ?_;refine al 70 tok ?_;refine aqb ?_;refine apt ?_;refine apf ?_;refine an ?_;exact ⟨_, Sub.mk' z34q z13q, z12q⟩
           ·
            iterate 3 refine ak _ ?_
            refine apf ?_;refine apf ?_;refine an ?_;exact ⟨_, Sub.mk' z34q z13q, z12q⟩
          ·
           iterate 3 refine ak _ ?_
           refine apf ?_;refine am 68 ?_
           iterate 3 refine ak _ ?_
           refine apf ?_;refine apf ?_;refine an ?_;exact ⟨_, Sub.mk' z34q z13q, z12q⟩
         ·
          iterate 3 refine ak _ ?_
          refine apf ?_;refine am 63 ?_
          iterate 3 refine ak _ ?_
          refine apf ?_;refine am 68 ?_
          iterate 3 refine ak _ ?_
          refine apf ?_;refine apf ?_;refine an ?_;exact ⟨_, Sub.mk' z34q z13q, z12q⟩
      ·
       iterate 3 refine ak _ ?_
       refine apf ?_;refine apf ?_;refine am 44 ?_;refine af 45 tok ?_;refine al 46 tok ?_;refine aqb ?_;refine am 48 ?_;refine AOps.split 48 rfl (fun hb15 => ?_) (fun hb15 => ?_)
       ·
        refine af 49 tok ?_;refine al 50 tok ?_;refine aqb ?_;refine apt ?_;refine apf ?_;refine am 54 ?_;refine AOps.split 54 rfl (fun hb16 => ?_) (fun hb16 => ?_)
        ·
         iterate 18 refine ak _ ?_
         refine apt ?_;refine an ?_;exact ⟨_, Sub.mk' z34q z13q, z12q⟩
        ·
         refine af 55 tok ?_;refine al 56 tok ?_;refine aqb ?_;refine am 58 ?_;refine AOps.split 58 rfl (fun hb17 => ?_) (fun hb17 => ?_)
         ·
          refine af 59 tok ?_;refine al 60 tok ?_;refine aqb ?_;refine apt ?_;refine am 63 ?_;refine AOps.split 63 rfl (fun hb18 => ?_) (fun hb18 => ?_)
          ·
           refine af 64 tok ?_;refine al 65 tok ?_;refine aqb ?_;refine apt ?_;refine am 68 ?_;refine AOps.split 68 rfl (fun hb19 => ?_) (fun hb19 => ?_)
           ·
            refine af 69 tok ?_;refine al 70 tok ?_;refine aqb ?_;refine apt ?_;refine apf ?_;refine an ?_;exact ⟨_, Sub.mk' z34q z13q, z12q⟩
           ·
            iterate 3 refine ak _ ?_
            refine apf ?_;refine apf ?_;refine an ?_;exact ⟨_, Sub.mk' z34q z13q, z12q⟩
          ·
           iterate 3 refine ak _ ?_
           refine apf ?_;refine am 68 ?_
           iterate 3 refine ak _ ?_
           refine apf ?_;refine apf ?_;refine an ?_;exact ⟨_, Sub.mk' z34q z13q, z12q⟩
         ·
          iterate 3 refine ak _ ?_
          refine apf ?_;refine am 63 ?_
          iterate 3 refine ak _ ?_
          refine apf ?_;refine am 68 ?_
          iterate 3 refine ak _ ?_
          refine apf ?_;refine apf ?_;refine an ?_;exact ⟨_, Sub.mk' z34q z13q, z12q⟩
       ·
        iterate 3 refine ak _ ?_
        refine apf ?_;refine apf ?_;refine am 54 ?_;refine af 55 tok ?_;refine al 56 tok ?_;refine aqb ?_;refine am 58 ?_;refine AOps.split 58 rfl (fun hb20 => ?_) (fun hb20 => ?_)
        ·
         refine af 59 tok ?_;refine al 60 tok ?_;refine aqb ?_;refine apt ?_;refine am 63 ?_;refine AOps.split 63 rfl (fun hb21 => ?_) (fun hb21 => ?_)
         ·
          refine af 64 tok ?_;refine al 65 tok ?_;refine aqb ?_;refine apt ?_;refine am 68 ?_;refine AOps.split 68 rfl (fun hb22 => ?_) (fun hb22 => ?_)
          ·
           refine af 69 tok ?_;refine al 70 tok ?_;refine aqb ?_;refine apt ?_;refine apf ?_;refine an ?_;exact ⟨_, Sub.mk' z34q z13q, z12q⟩
          ·
           iterate 3 refine ak _ ?_
           refine apf ?_;refine apf ?_;refine an ?_;exact ⟨_, Sub.mk' z34q z13q, z12q⟩
         ·
          iterate 3 refine ak _ ?_
          refine apf ?_;refine am 68 ?_
          iterate 3 refine ak _ ?_
          refine apf ?_;refine apf ?_;refine an ?_;exact ⟨_, Sub.mk' z34q z13q, z12q⟩
        ·
         iterate 3 refine ak _ ?_
         refine apf ?_;refine am 63 ?_
         iterate 3 refine ak _ ?_
         refine apf ?_;refine am 68 ?_
         iterate 3 refine ak _ ?_
         refine apf ?_;refine apf ?_;refine an ?_;exact ⟨_, Sub.mk' z34q z13q, z12q⟩
    ·
     iterate 3 refine ak _ ?_
     refine apf ?_;refine apf ?_;refine am 34 ?_;refine af 35 tok ?_;refine al 36 tok ?_;refine aqb ?_;refine am 38 ?_;refine AOps.split 38 rfl (fun hb23 => ?_) (fun hb23 => ?_)
     ·
      refine af 39 tok ?_;refine al 40 tok ?_;refine aqb ?_;refine apt ?_;refine apf ?_;refine am 44 ?_;refine AOps.split 44 rfl (fun hb24 => ?_) (fun hb24 => ?_)
      ·
       iterate 8 refine ak _ ?_
       refine apt ?_;refine am 54 ?_
       iterate 18 refine ak _ ?_
       refine apt ?_;refine an ?_;exact ⟨_, Sub.mk' z34q z13q, z12q⟩
      ·
       refine af 45 tok ?_;refine al 46 tok ?_;refine aqb ?_;refine am 48 ?_;refine AOps.split 48 rfl (fun hb25 => ?_) (fun hb25 => ?_)
       ·
        refine af 49 tok ?_;refine al 50 tok ?_;refine aqb ?_;refine apt ?_;refine apf ?_;refine am 54 ?_;refine AOps.split 54 rfl (fun hb26 => ?_) (fun hb26 => ?_)
        ·
         iterate 18 refine ak _ ?_
         refine apt ?_;refine an ?_;exact ⟨_, Sub.mk' z34q z13q, z12q⟩
        ·
         refine af 55 tok ?_;refine al 56 tok ?_;refine aqb ?_;refine am 58 ?_;refine AOps.split 58 rfl (fun hb27 => ?_) (fun hb27 => ?_)
         ·
          refine af 59 tok ?_;refine al 60 tok ?_;refine aqb ?_;refine apt ?_;refine am 63 ?_;refine AOps.split 63 rfl (fun hb28 => ?_) (fun hb28 => ?_)
          ·
           refine af 64 tok ?_;refine al 65 tok ?_;refine aqb ?_;refine apt ?_;refine am 68 ?_;refine AOps.split 68 rfl (fun hb29 => ?_) (fun hb29 => ?_)
           ·
            refine af 69 tok ?_;refine al 70 tok ?_;refine aqb ?_;refine apt ?_;refine apf ?_;refine an ?_;exact ⟨_, Sub.mk' z34q z13q, z12q⟩
           ·
            iterate 3 refine ak _ ?_
            refine apf ?_;refine apf ?_;refine an ?_;exact ⟨_, Sub.mk' z34q z13q, z12q⟩
          ·
           iterate 3 refine ak _ ?_
           refine apf ?_;refine am 68 ?_
           iterate 3 refine ak _ ?_
           refine apf ?_;refine apf ?_;refine an ?_;exact ⟨_, Sub.mk' z34q z13q, z12q⟩
         ·
          iterate 3 refine ak _ ?_
          refine apf ?_;refine am 63 ?_
          iterate 3 refine ak _ ?_
          refine apf ?_;refine am 68 ?_
          iterate 3 refine ak _ ?_
          refine apf ?_;refine apf ?_;refine an ?_;exact ⟨_, Sub.mk' z34q z13q, z12q⟩
       ·
        iterate 3 refine ak _ ?_
        refine apf ?_;refine apf ?_;refine am 54 ?_;refine af 55 tok ?_;refine al 56 tok ?_;refine aqb ?_;refine am 58 ?_;refine AOps.split 58 rfl (fun hb30 => ?_) (fun hb30 => ?_)
        ·
         refine af 59 tok ?_;refine al 60 tok ?_;refine aqb ?_;refine apt ?_;refine am 63 ?_;refine AOps.split 63 rfl (fun hb31 => ?_) (fun hb31 => ?_)
         ·
          refine af 64 tok ?_;refine al 65 tok ?_;refine aqb ?_;refine apt ?_;refine am 68 ?_;refine AOps.split 68 rfl (fun hb32 => ?_) (fun hb32 => ?_)
          ·
           refine af 69 tok ?_;refine al 70 tok ?_;refine aqb ?_;refine apt ?_;refine apf ?_;refine an ?_;exact ⟨_, Sub.mk' z34q z13q, z12q⟩
          ·
           iterate 3 refine ak _ ?_
           refine apf ?_;refine apf ?_;refine an ?_;exact ⟨_, Sub.mk' z34q z13q, z12q⟩
         ·
          iterate 3 refine ak _ ?_
          refine apf ?_;refine am 68 ?_
          iterate 3 refine ak _ ?_
          refine apf ?_;refine apf ?_;refine an ?_;exact ⟨_, Sub.mk' z34q z13q, z12q⟩
        ·
         iterate 3 refine ak _ ?_
         refine apf ?_;refine am 63 ?_
         iterate 3 refine ak _ ?_
         refine apf ?_;refine am 68 ?_
         iterate 3 refine ak _ ?_
         refine apf ?_;refine apf ?_;refine an ?_;exact ⟨_, Sub.mk' z34q z13q, z12q⟩
     ·
      iterate 3 refine ak _ ?_
      refine apf ?_;refine apf ?_;refine am 44 ?_;refine af 45 tok ?_;refine al 46 tok ?_;refine aqb ?_;refine am 48 ?_;refine AOps.split 48 rfl (fun hb33 => ?_) (fun hb33 => ?_)
      ·
       refine af 49 tok ?_;refine al 50 tok ?_;refine aqb ?_;refine apt ?_;refine apf ?_;refine am 54 ?_;refine AOps.split 54 rfl (fun hb34 => ?_) (fun hb34 => ?_)
       ·
        iterate 18 refine ak _ ?_
        refine apt ?_;refine an ?_;exact ⟨_, Sub.mk' z34q z13q, z12q⟩
       ·
        refine af 55 tok ?_;refine al 56 tok ?_;refine aqb ?_;refine am 58 ?_;refine AOps.split 58 rfl (fun hb35 => ?_) (fun hb35 => ?_)
        ·
         refine af 59 tok ?_;refine al 60 tok ?_;refine aqb ?_;refine apt ?_;refine am 63 ?_;refine AOps.split 63 rfl (fun hb36 => ?_) (fun hb36 => ?_)
         ·
          refine af 64 tok ?_;refine al 65 tok ?_;refine aqb ?_;refine apt ?_;refine am 68 ?_;refine AOps.split 68 rfl (fun hb37 => ?_) (fun hb37 => ?_)
          ·
           refine af 69 tok ?_;refine al 70 tok ?_;refine aqb ?_;refine apt ?_;refine apf ?_;refine an ?_;exact ⟨_, Sub.mk' z34q z13q, z12q⟩
          ·
           iterate 3 refine ak _ ?_
           refine apf ?_;refine apf ?_;refine an ?_;exact ⟨_, Sub.mk' z34q z13q, z12q⟩
         ·
          iterate 3 refine ak _ ?_
          refine apf ?_;refine am 68 ?_
          iterate 3 refine ak _ ?_
          refine apf ?_;refine apf ?_;refine an ?_;exact ⟨_, Sub.mk' z34q z13q, z12q⟩
        ·
         iterate 3 refine ak _ ?_
         refine apf ?_;refine am 63 ?_
         iterate 3 refine ak _ ?_
         refine apf ?_;refine am 68 ?_
         iterate 3 refine ak _ ?_
         refine apf ?_;refine apf ?_;refine an ?_;exact ⟨_, Sub.mk' z34q z13q, z12q⟩
      ·
       iterate 3 refine ak _ ?_
       refine apf ?_;refine apf ?_;refine am 54 ?_;refine af 55 tok ?_;refine al 56 tok ?_;refine aqb ?_;refine am 58 ?_;refine AOps.split 58 rfl (fun hb38 => ?_) (fun hb38 => ?_)
       ·
        refine af 59 tok ?_;refine al 60 tok ?_;refine aqb ?_;refine apt ?_;refine am 63 ?_;refine AOps.split 63 rfl (fun hb39 => ?_) (fun hb39 => ?_)
        ·
         refine af 64 tok ?_;refine al 65 tok ?_;refine aqb ?_;refine apt ?_;refine am 68 ?_;refine AOps.split 68 rfl (fun hb40 => ?_) (fun hb40 => ?_)
         ·
          refine af 69 tok ?_;refine al 70 tok ?_;refine aqb ?_;refine apt ?_;refine apf ?_;refine an ?_;exact ⟨_, Sub.mk' z34q z13q, z12q⟩
         ·
          iterate 3 refine ak _ ?_
          refine apf ?_;refine apf ?_;refine an ?_;exact ⟨_, Sub.mk' z34q z13q, z12q⟩
        ·
         iterate 3 refine ak _ ?_
         refine apf ?_;refine am 68 ?_
         iterate 3 refine ak _ ?_
         refine apf ?_;refine apf ?_;refine an ?_;exact ⟨_, Sub.mk' z34q z13q, z12q⟩
       ·
        iterate 3 refine ak _ ?_
        refine apf ?_;refine am 63 ?_
        iterate 3 refine ak _ ?_
        refine apf ?_;refine am 68 ?_
        iterate 3 refine ak _ ?_
        refine apf ?_;refine apf ?_;refine an ?_;exact ⟨_, Sub.mk' z34q z13q, z12q⟩
  intro b hB
  refine AGo.split 73 rfl (fun hb41 => ?_) (fun hb41 => ?_)
  ·
   refine act ?_
   have hbad : x.right C f level = false := eright_bare hB hb41
   refine asr ?_
   refine aa 8 ?_
   refine an ?_
   refine AGo.ret ?_
   refine ⟨[_], ⟨rfl, trivial⟩, ?_, rfl⟩
   show AV.bool _ = AV.bool _
   congr 1
   rw [CE.rightL_all, all_bad hx hbad]
  ·
   refine acf ?_
   have hby := ebare_yes hB hb41
   refine AGo.skip ?_
   refine asr ?_
   refine aa 11 ?_
   refine an ?_
   refine AGo.seq ?_
   refine asr ?_
   refine af 74 tok ?_
   refine al 75 tok ?_
   refine an ?_
   refine AGo.join (γ := Int) (fun n => ⟨147, (eput (eput (eput (eput (eput (eput (eput eNew 1 (.int .i64 f)) 2 (.lst false (l.map CE.cells))) 3 (.int .i64 level)) 4 (.ptr 0 1 0 0)) 9 (.int .i64 (k : Int))) 10 (.ptr 1 1 0 0)) 11 (.int .i64 n)), (hput (hput (hFrom 2) 0 (.row false 2 [C.cells])) 1 (.row false 6 [x.row]))⟩) (fun n => n = x.cnt ∧ x.most C f = true) ?_ ?_
   ·
    refine AGo.block ?_;refine AGo.seq ?_;refine asr ?_;refine aqb ?_;refine aa 76 ?_;refine an ?_;refine AGo.split 76 rfl (fun hb42 => ?_) (fun hb42 => ?_)
    ·
     refine act ?_;refine AGo.skip ?_;refine act ?_;refine AGo.skip ?_;exact ⟨_, Sub.mk' z34q z13q, ⟨by simp_all [CE.cnt], by simp_all [CE.most]⟩⟩
    ·
     refine acf ?_;refine AGo.region ?_;refine aqb ?_;refine aa 76 ?_;refine an ?_;refine AGo.split 76 rfl (fun hb43 => ?_) (fun hb43 => ?_)
     ·
      refine act ?_;refine AGo.skip ?_;exact ⟨_, Sub.mk' z34q z13q, ⟨by simp_all [CE.cnt], by simp_all [CE.most]⟩⟩
     ·
      refine acf ?_;refine asr ?_;refine aqb ?_;refine aa 79 ?_;refine an ?_;refine AGo.split 79 rfl (fun hb44 => ?_) (fun hb44 => ?_)
      ·
       refine act ?_;refine asr ?_;refine al 81 tok ?_;refine af 82 tok ?_;refine al 83 tok ?_;refine ax 84 (o_pure rfl Try.func62 (by kernel_rfl) rfl rfl rfl (within19_ok C _ _ h0 h1)) ?_;refine aq 85 (q_not rfl rfl) ?_;refine an ?_;refine AGo.split 85 rfl (fun hb45 => ?_) (fun hb45 => ?_)
       ·
        refine act ?_;refine asr ?_;refine aa 8 ?_;refine an ?_;refine AGo.ret ?_;refine ⟨[_], ⟨rfl, trivial⟩, ?_, rfl⟩
        show AV.bool _ = AV.bool _
        congr 1
        rw [CE.rightL_all, all_bad hx (eright_most (by simp_all [CE.most] <;> omega))]
       ·
        refine acf ?_;refine AGo.skip ?_;exact ⟨_, Sub.mk' z34q z13q, ⟨by simp_all [CE.cnt], by simp_all [CE.most]⟩⟩
      ·
       refine acf ?_;refine asr ?_;refine aqb ?_;refine aa 86 ?_;refine an ?_;refine AGo.split 86 rfl (fun hb46 => ?_) (fun hb46 => ?_)
       ·
        refine act ?_;refine asr ?_;refine aa 11 ?_;refine an ?_;refine asr ?_;refine af 88 tok ?_;refine al 89 tok ?_;refine aqb ?_;refine am 91 ?_;refine AOps.split 91 rfl (fun hb47 => ?_) (fun hb47 => ?_)
        ·
         iterate 3 refine ak _ ?_
         refine apt ?_;refine am 96 ?_
         iterate 7 refine ak _ ?_
         refine apt ?_;refine an ?_;refine act ?_;refine asr ?_;refine aa 8 ?_;refine an ?_;refine AGo.ret ?_;refine ⟨[_], ⟨rfl, trivial⟩, ?_, rfl⟩
         show AV.bool _ = AV.bool _
         congr 1
         rw [CE.rightL_all, all_bad hx (eright_most (by simp_all [CE.most] <;> omega))]
        ·
         refine af 92 tok ?_;refine al 93 tok ?_;refine aqb ?_;refine apf ?_;refine am 96 ?_;refine AOps.split 96 rfl (fun hb48 => ?_) (fun hb48 => ?_)
         ·
          iterate 7 refine ak _ ?_
          refine apt ?_;refine an ?_;refine act ?_;refine asr ?_;refine aa 8 ?_;refine an ?_;refine AGo.ret ?_;refine ⟨[_], ⟨rfl, trivial⟩, ?_, rfl⟩
          show AV.bool _ = AV.bool _
          congr 1
          rw [CE.rightL_all, all_bad hx (eright_most (by simp_all [CE.most] <;> omega))]
         ·
          refine al 97 tok ?_;refine af 98 tok ?_;refine al 99 tok ?_;refine af 100 tok ?_;refine al 101 tok ?_;refine ax 102 (o_pure rfl Try.func62 (by kernel_rfl) rfl rfl rfl (within19_ok C _ _ h0 h1)) ?_;refine aq 103 (q_not rfl rfl) ?_;refine apf ?_;refine an ?_;refine AGo.split 104 rfl (fun hb49 => ?_) (fun hb49 => ?_)
          ·
           refine act ?_;refine asr ?_;refine aa 8 ?_;refine an ?_;refine AGo.ret ?_;refine ⟨[_], ⟨rfl, trivial⟩, ?_, rfl⟩
           show AV.bool _ = AV.bool _
           congr 1
           rw [CE.rightL_all, all_bad hx (eright_most (by simp_all [CE.most] <;> omega))]
          ·
           refine acf ?_;refine AGo.skip ?_;exact ⟨_, Sub.mk' z34q z13q, ⟨by simp_all [CE.cnt], by simp_all [CE.most]⟩⟩
       ·
        refine acf ?_;refine asr ?_;refine aqb ?_;refine aa 105 ?_;refine an ?_;refine AGo.split 105 rfl (fun hb50 => ?_) (fun hb50 => ?_)
        ·
         refine act ?_;refine asr ?_;refine af 107 tok ?_;refine al 108 tok ?_;refine aq 109 (q_len tok rfl rfl rfl rfl rfl) ?_;refine aa 11 ?_;refine an ?_;refine asr ?_;refine al 110 tok ?_;refine am 111 ?_;refine af 112 tok ?_;refine al 113 tok ?_;refine am 114 ?_;refine ax 115 (o_pure rfl Try.func85 (by kernel_rfl) rfl rfl rfl (callee19_ok C f _ _ _ (hfs _))) ?_;refine aq 116 (q_not rfl rfl) ?_;refine an ?_;refine AGo.split 116 rfl (fun hb51 => ?_) (fun hb51 => ?_)
         ·
          refine act ?_;refine asr ?_;refine aa 8 ?_;refine an ?_;refine AGo.ret ?_;refine ⟨[_], ⟨rfl, trivial⟩, ?_, rfl⟩
          show AV.bool _ = AV.bool _
          congr 1
          rw [CE.rightL_all, all_bad hx (eright_most (by simp_all [CE.most] <;> omega))]
         ·
          refine acf ?_;refine AGo.skip ?_;exact ⟨_, Sub.mk' z34q z13q, ⟨by simp_all [CE.cnt], by simp_all [CE.most]⟩⟩
        ·
         refine acf ?_;refine asr ?_;refine aqb ?_;refine aa 117 ?_;refine an ?_;refine AGo.split 117 rfl (fun hb52 => ?_) (fun hb52 => ?_)
         ·
          refine act ?_;refine asr ?_;refine aa 11 ?_;refine an ?_;refine asr ?_;refine af 119 tok ?_;refine al 120 tok ?_;refine aqb ?_;refine am 122 ?_;refine AOps.split 122 rfl (fun hb53 => ?_) (fun hb53 => ?_)
          ·
           iterate 3 refine ak _ ?_
           refine apt ?_;refine an ?_;refine act ?_;refine asr ?_;refine aa 8 ?_;refine an ?_;refine AGo.ret ?_;refine ⟨[_], ⟨rfl, trivial⟩, ?_, rfl⟩
           show AV.bool _ = AV.bool _
           congr 1
           rw [CE.rightL_all, all_bad hx (eright_most (by simp_all [CE.most] <;> omega))]
          ·
           refine af 123 tok ?_;refine al 124 tok ?_;refine aqb ?_;refine apf ?_;refine an ?_;refine AGo.split 126 rfl (fun hb54 => ?_) (fun hb54 => ?_)
           ·
            refine act ?_;refine asr ?_;refine aa 8 ?_;refine an ?_;refine AGo.ret ?_;refine ⟨[_], ⟨rfl, trivial⟩, ?_, rfl⟩
            show AV.bool _ = AV.bool _
            congr 1
            rw [CE.rightL_all, all_bad hx (eright_most (by simp_all [CE.most] <;> omega))]
           ·
            refine acf ?_;refine AGo.skip ?_;exact ⟨_, Sub.mk' z34q z13q, ⟨by simp_all [CE.cnt], by simp_all [CE.most]⟩⟩
         ·
          refine acf ?_;refine asr ?_;refine aqb ?_;refine aa 127 ?_;refine an ?_;refine AGo.split 127 rfl (fun hb55 => ?_) (fun hb55 => ?_)
          ·
           refine act ?_;refine AGo.region ?_;refine aa 11 ?_;refine an ?_;exact ⟨_, Sub.mk' z34q z13q, ⟨by simp_all [CE.cnt], by simp_all [CE.most]⟩⟩
          ·
           refine acf ?_;refine AGo.seq ?_;refine asr ?_;refine aqb ?_;refine aa 129 ?_;refine an ?_;refine AGo.split 129 rfl (fun hb56 => ?_) (fun hb56 => ?_)
           ·
            refine act ?_;refine AGo.skip ?_;refine act ?_;refine AGo.region ?_;refine aa 11 ?_;refine an ?_;exact ⟨_, Sub.mk' z34q z13q, ⟨by simp_all [CE.cnt], by simp_all [CE.most]⟩⟩
           ·
            refine acf ?_;refine AGo.region ?_;refine aqb ?_;refine aa 129 ?_;refine an ?_;refine AGo.split 129 rfl (fun hb57 => ?_) (fun hb57 => ?_)
            ·
             refine act ?_;refine AGo.region ?_;refine aa 11 ?_;refine an ?_;exact ⟨_, Sub.mk' z34q z13q, ⟨by simp_all [CE.cnt], by simp_all [CE.most]⟩⟩
            ·
             refine acf ?_;refine asr ?_;refine aa 8 ?_;refine an ?_;refine AGo.ret ?_;refine ⟨[_], ⟨rfl, trivial⟩, ?_, rfl⟩
             show AV.bool _ = AV.bool _
             congr 1
             rw [CE.rightL_all, all_bad hx (eright_most (by simp_all [CE.most] <;> omega))]
   intro n hN
   refine asr ?_
   refine af 132 tok ?_
   refine al 133 tok ?_
   refine aq 134 (q_len tok rfl rfl rfl rfl rfl) ?_
   refine am 135 ?_
   refine aqb ?_
   refine am 137 ?_
   refine AOps.split 137 rfl (fun hb58 => ?_) (fun hb58 => ?_)
   ·
    iterate 8 refine ak _ ?_
    refine apt ?_;refine an ?_;refine act ?_;refine asr ?_;refine aa 8 ?_;refine an ?_;refine AGo.ret ?_;refine ⟨[_], ⟨rfl, trivial⟩, ?_, rfl⟩
    show AV.bool _ = AV.bool _
    congr 1
    obtain ⟨hN1, hN2⟩ := hN
    subst hN1
    rw [CE.rightL_all, all_bad hx (by first | (apply eright_cnt; simp_all; done) | (apply eright_kids; simp_all; done))]
   ·
    refine al 138 tok ?_;refine am 139 ?_;refine af 140 tok ?_;refine al 141 tok ?_;refine am 142 ?_;refine aq 143 (q_bin (r := .int .i64 (level + 1)) rfl rfl rfl z29q) ?_;refine ax 144 (o_pure rfl Try.func86 (by kernel_rfl) rfl rfl rfl (hrec hby.1 x hxm)) ?_;refine aq 145 (q_not rfl rfl) ?_;refine apf ?_;refine an ?_;refine AGo.split 146 rfl (fun hb59 => ?_) (fun hb59 => ?_)
    ·
     refine act ?_;refine asr ?_;refine aa 8 ?_;refine an ?_;refine AGo.ret ?_;refine ⟨[_], ⟨rfl, trivial⟩, ?_, rfl⟩
     show AV.bool _ = AV.bool _
     congr 1
     obtain ⟨hN1, hN2⟩ := hN
     subst hN1
     rw [CE.rightL_all, all_bad hx (by first | (apply eright_cnt; simp_all; done) | (apply eright_kids; simp_all; done))]
    ·
     refine acf ?_
     have hyes : x.right C f level = true := by obtain ⟨hN1, hN2⟩ := hN; subst hN1; refine eright_yes hby hN2 ?_ ?_ <;> simp_all
     refine AGo.skip ?_;refine AGo.region ?_;refine am 16 ?_;refine aq 17 (q_inc rfl rfl hkl hlen) ?_;refine aa 9 ?_;refine an ?_;exact ⟨k+1, Drop.mk' z22q z17q, all_succ hx hk hyes, by omega⟩
 ·
  refine acf ?_
  have hge := ge_of_idx hb1
  refine AGo.exit ?_
  refine asr ?_
  refine aa 8 ?_
  refine an ?_
  refine AGo.ret ?_
  refine ⟨[_], ⟨rfl, trivial⟩, ?_, rfl⟩
  show AV.bool _ = AV.bool _
  congr 1
  rw [CE.rightL_all, all_end hk hge]
theorem rightE_ok (C : Core) (f : Int) (h0 : 0 ≤ C.words) (h1 : C.words ≤ 1000000) (hfs : ∀ g, 0 ≤ g → g < f → ∃ fn, C.funcs[g.toNat]? = some fn) : ∀ (n : Nat) (l : List CE) (level : Int), 25 - level < n → (∀ e ∈ l, e.Ok) → l.length * 64 ≤ reachBytes → 0 ≤ level → level ≤ 1000 → APure Try.prog 86 [.agg C.cells, .int .i64 f, (.lst false (l.map CE.cells)), .int .i64 level] (fun r => r = .bool (CE.rightL C f l level))
  | 0, l, level, hn, hk, hl, h2, h3 => rightE_step C f h0 h1 hfs l level (len64 hl) h2 h3 fun h => absurd h (by omega)
  | n + 1, l, level, hn, hk, hl, h2, h3 => rightE_step C f h0 h1 hfs l level (len64 hl) h2 h3 fun h x hx => rightE_ok C f h0 h1 hfs n x.kids (level + 1) (by omega) (hk x hx).kidsOk.1 (hk x hx).kidsOk.2 (by omega) (by omega)
set_option maxHeartbeats 1000000 in
set_option maxRecDepth 100000 in
theorem rightS_step (C : Core) (f : Int) (h0 : 0 ≤ C.words) (h1 : C.words ≤ 1000000) (hfs : ∀ g, 0 ≤ g → g < f → ∃ fn, C.funcs[g.toNat]? = some fn) (hf0 : 0 ≤ f) (gf : CFn) (hgf : C.funcs[f.toNat]? = some gf) (l : List CS) (level : Int) (hkk : ∀ e ∈ l, e.Ok) (hlen : l.length ≤ maxLen) (hl0 : 0 ≤ level) (hl2 : level ≤ 900) (hrec : level ≤ 24 → ∀ x ∈ l, APure Try.prog 63 [.agg C.cells, .int .i64 f, (.lst false (x.thn.map CS.cells)), .int .i64 (level + 1)] (fun r => r = .bool (CS.rightL C f gf.word x.thn (level + 1))) ∧ APure Try.prog 63 [.agg C.cells, .int .i64 f, (.lst false (x.els.map CS.cells)), .int .i64 (level + 1)] (fun r => r = .bool (CS.rightL C f gf.word x.els (level + 1)))) : APure Try.prog 63 [.agg C.cells, .int .i64 f, (.lst false (l.map CS.cells)), .int .i64 level] (fun r => r = .bool (CS.rightL C f gf.word l level)) := by
 refine APure.of_body (n := 175) tok Try.func63 rfl rfl ?_
 refine asr ?_
 refine ax 4 (o_box (sz := 2) 0 rfl rfl rfl rfl (Nat.zero_lt_succ _) rfl) ?_
 refine aa 8 ?_
 refine an ?_
 refine AGo.seq ?_
 refine asr ?_
 refine aa 9 ?_
 refine an ?_
 refine AGo.block ?_
 refine AGo.loopD (γ := Nat) 1 (fun k => ⟨175, (eput (eput (eput (eput (eput eNew 1 (.int .i64 f)) 2 (.lst false (l.map CS.cells))) 3 (.int .i64 level)) 4 (.ptr 0 1 0 0)) 9 (.int .i64 (k : Int))), (hput (hFrom 1) 0 (.row false 2 [C.cells]))⟩) (fun k => (l.take k).all (fun e => e.right C f gf.word level) = true) (fun k => l.length - k) 0 (Sub.mk' z34q z13q) rfl (fun _ => hput_free (fun b hb => hFrom_free hb) rfl) ?_
 intro k hk
 refine AGo.seq ?_
 refine asr ?_
 refine am 12 ?_
 refine am 13 ?_
 refine aq 14 (q_len tok rfl rfl rfl rfl rfl) ?_
 refine aqb ?_
 refine an ?_
 refine AGo.split 15 rfl (fun hb1 => ?_) (fun hb1 => ?_)
 ·
  refine act ?_
  have hkl : k < l.length := lt_of_idx hb1
  obtain ⟨x, hx⟩ := get_of_lt hkl
  have hxm := List.mem_of_getElem? hx
  have hxk := hkk x hxm
  refine AGo.skip ?_
  refine AGo.seq ?_
  refine AGo.block ?_
  refine asr ?_
  refine am 18 ?_
  refine am 19 ?_
  refine aq 20 (q_index_lst tok rfl rfl rfl rfl rfl rfl (Int.natCast_nonneg _) (idxS hx) rfl) ?_
  refine al 21 tok ?_
  refine ax 10 (o_alloc tok 1 rfl rfl rfl rfl (Nat.zero_lt_succ _) rfl) ?_
  refine AOps.w rfl rfl (o_store tok rfl rfl rfl rfl rfl rfl rfl rfl rfl (by decide) rfl z40q) ?_
  refine an ?_
  refine AGo.seq ?_
  refine AGo.seq ?_
  refine AGo.join (γ := Bool) (fun b => ⟨175, (eput (eput (eput (eput (eput (eput (eput eNew 1 (.int .i64 f)) 2 (.lst false (l.map CS.cells))) 3 (.int .i64 level)) 4 (.ptr 0 1 0 0)) 9 (.int .i64 (k : Int))) 10 (.ptr 1 1 0 0)) 80 (.bool b)), (hput (hput (hFrom 2) 0 (.row false 2 [C.cells])) 1 (.row false 6 [x.row]))⟩) (fun b => b = !(decide (level ≤ 24) && x.bare)) ?_ ?_
  ·
   refine AGo.region ?_
   refine am 22 ?_
   refine aqb ?_
   refine am 24 ?_
   refine AOps.split 24 rfl (fun hb2 => ?_) (fun hb2 => ?_)
   ·
    iterate 8 refine ak _ ?_
    refine apt ?_;refine am 34 ?_
    iterate 18 refine ak _ ?_
    refine apt ?_;refine am 54 ?_
    iterate 9 refine ak _ ?_
    refine apt ?_;refine am 65 ?_
    iterate 14 refine ak _ ?_
    refine apt ?_;refine an ?_;exact ⟨_, Sub.mk' z34q z13q, z7q⟩
   ·
    refine af 25 tok ?_;refine al 26 tok ?_;refine aqb ?_;refine am 28 ?_;refine AOps.split 28 rfl (fun hb3 => ?_) (fun hb3 => ?_)
    ·
     refine af 29 tok ?_;refine al 30 tok ?_;refine aqb ?_;refine apt ?_;refine apf ?_;refine am 34 ?_;refine AOps.split 34 rfl (fun hb4 => ?_) (fun hb4 => ?_)
     ·
      iterate 18 refine ak _ ?_
      refine apt ?_;refine am 54 ?_
      iterate 9 refine ak _ ?_
      refine apt ?_;refine am 65 ?_
      iterate 14 refine ak _ ?_
      refine apt ?_;refine an ?_;exact ⟨_, Sub.mk' z34q z13q, z7q⟩
     ·
      refine af 35 tok ?_;refine al 36 tok ?_;refine aqb ?_;refine am 38 ?_;refine AOps.split 38 rfl (fun hb5 => ?_) (fun hb5 => ?_)
      ·
       refine af 39 tok ?_;refine al 40 tok ?_;refine aqb ?_;refine apt ?_;refine am 43 ?_;refine AOps.split 43 rfl (fun hb6 => ?_) (fun hb6 => ?_)
       ·
        refine af 44 tok ?_;refine al 45 tok ?_;refine aqb ?_;refine apt ?_;refine am 48 ?_;refine AOps.split 48 rfl (fun hb7 => ?_) (fun hb7 => ?_)
        ·
         refine af 49 tok ?_;refine al 50 tok ?_;refine aqb ?_;refine apt ?_;refine apf ?_;refine am 54 ?_;refine AOps.split 54 rfl (fun hb8 => ?_) (fun hb8 => ?_)
         ·
          iterate 9 refine ak _ ?_
          refine apt ?_;refine am 65 ?_
          iterate 14 refine ak _ ?_
          refine apt ?_;refine an ?_;exact ⟨_, Sub.mk' z34q z13q, z7q⟩
         ·
          refine af 55 tok ?_;refine al 56 tok ?_;refine aqb ?_;refine am 58 ?_;refine AOps.split 58 rfl (fun hb9 => ?_) (fun hb9 => ?_)
          ·
           refine af 59 tok ?_;refine al 60 tok ?_;refine aq 61 (q_len tok rfl rfl rfl rfl rfl) ?_;refine aqb ?_;refine apt ?_;refine apf ?_;refine am 65 ?_;refine AOps.split 65 rfl (fun hb10 => ?_) (fun hb10 => ?_)
           ·
            iterate 14 refine ak _ ?_
            refine apt ?_;refine an ?_;exact ⟨_, Sub.mk' z34q z13q, z7q⟩
           ·
            refine af 66 tok ?_;refine al 67 tok ?_;refine aqb ?_;refine am 69 ?_;refine AOps.split 69 rfl (fun hb11 => ?_) (fun hb11 => ?_)
            ·
             refine af 70 tok ?_;refine al 71 tok ?_;refine aqb ?_;refine apt ?_;refine am 74 ?_;refine AOps.split 74 rfl (fun hb12 => ?_) (fun hb12 => ?_)
             ·
              refine af 75 tok ?_;refine al 76 tok ?_;refine aq 77 (q_len tok rfl rfl rfl rfl rfl) ?_;refine aqb ?_;refine apt ?_;refine apf ?_;refine an ?_;exact ⟨_, Sub.mk' z34q z13q, z7q⟩
             ·
              iterate 4 refine ak _ ?_
              refine apf ?_;refine apf ?_;refine an ?_;exact ⟨_, Sub.mk' z34q z13q, z7q⟩
            ·
             iterate 3 refine ak _ ?_
             refine apf ?_;refine am 74 ?_
             iterate 4 refine ak _ ?_
             refine apf ?_;refine apf ?_;refine an ?_;exact ⟨_, Sub.mk' z34q z13q, z7q⟩
          ·
           iterate 4 refine ak _ ?_
           refine apf ?_;refine apf ?_;refine am 65 ?_;refine af 66 tok ?_;refine al 67 tok ?_;refine aqb ?_;refine am 69 ?_;refine AOps.split 69 rfl (fun hb13 => ?_) (fun hb13 => ?_)
           ·
            refine af 70 tok ?_;refine al 71 tok ?_;refine aqb ?_;refine apt ?_;refine am 74 ?_;refine AOps.split 74 rfl (fun hb14 => ?_) (fun hb14 => ?_)
            ·
             refine af 75 tok ?_;refine al 76 tok ?_;refine aq 77 (q_len tok rfl rfl rfl rfl rfl) ?_;refine aqb ?_;refine apt ?_;refine apf ?_;refine an ?_;exact ⟨_, Sub.mk' z34q z13q, z7q⟩
            ·
             iterate 4 refine ak _ ?_
             refine apf ?_;refine apf ?_;refine an ?_;exact ⟨_, Sub.mk' z34q z13q, z7q⟩
           ·
            iterate 3 refine ak _ ?_
            refine apf ?_;refine am 74 ?_
            iterate 4 refine ak _ ?_
            refine apf ?_;refine apf ?_;refine an ?_;exact ⟨_, Sub.mk' z34q z13q, z7q⟩
        ·
         iterate 3 refine ak _ ?_
         refine apf ?_;refine apf ?_;refine am 54 ?_;refine af 55 tok ?_;refine al 56 tok ?_;refine aqb ?_;refine am 58 ?_;refine AOps.split 58 rfl (fun hb15 => ?_) (fun hb15 => ?_)
         ·
          refine af 59 tok ?_;refine al 60 tok ?_;refine aq 61 (q_len tok rfl rfl rfl rfl rfl) ?_;refine aqb ?_;refine apt ?_;refine apf ?_;refine am 65 ?_;refine AOps.split 65 rfl (fun hb16 => ?_) (fun hb16 => ?_)
          ·
           iterate 14 refine ak _ ?_
           refine apt ?_;refine an ?_;exact ⟨_, Sub.mk' z34q z13q, z7q⟩
          ·
           refine af 66 tok ?_;refine al 67 tok ?_;refine aqb ?_;refine am 69 ?_;refine AOps.split 69 rfl (fun hb17 => ?_) (fun hb17 => ?_)
           ·
            refine af 70 tok ?_;refine al 71 tok ?_;refine aqb ?_;refine apt ?_;refine am 74 ?_;refine AOps.split 74 rfl (fun hb18 => ?_) (fun hb18 => ?_)
            ·
             refine af 75 tok ?_;refine al 76 tok ?_;refine aq 77 (q_len tok rfl rfl rfl rfl rfl) ?_;refine aqb ?_;refine apt ?_;refine apf ?_;refine an ?_;exact ⟨_, Sub.mk' z34q z13q, z7q⟩
            ·
             iterate 4 refine ak _ ?_
             refine apf ?_;refine apf ?_;refine an ?_;exact ⟨_, Sub.mk' z34q z13q, z7q⟩
           ·
            iterate 3 refine ak _ ?_
            refine apf ?_;refine am 74 ?_
            iterate 4 refine ak _ ?_
            refine apf ?_;refine apf ?_;refine an ?_;exact ⟨_, Sub.mk' z34q z13q, z7q⟩
         ·
          iterate 4 refine ak _ ?_
          refine apf ?_;refine apf ?_;refine am 65 ?_;refine af 66 tok ?_;refine al 67 tok ?_;refine aqb ?_;refine am 69 ?_;refine AOps.split 69 rfl (fun hb19 => ?_) (fun hb19 => ?_)
          ·
           refine af 70 tok ?_;refine al 71 tok ?_;refine aqb ?_;refine apt ?_;refine am 74 ?_;refine AOps.split 74 rfl (fun hb20 => ?_) (fun hb20 => ?_)
           ·
            refine af 75 tok ?_;refine al 76 tok ?_;refine aq 77 (q_len tok rfl rfl rfl rfl rfl) ?_;refine aqb ?_;refine apt ?_;refine apf ?_;refine an ?_;exact ⟨_, Sub.mk' z34q z13q, z7q⟩
           ·
            iterate 4 refine ak _ ?_
            refine apf ?_;refine apf ?_;refine an ?_;exact ⟨_, Sub.mk' z34q z13q, z7q⟩
          ·
           iterate 3 refine ak _ ?_
           refine apf ?_;refine am 74 ?_
           iterate 4 refine ak _ ?_
           refine apf ?_;refine apf ?_;refine an ?_;exact ⟨_, Sub.mk' z34q z13q, z7q⟩
       ·
        iterate 3 refine ak _ ?_
        refine apf ?_;refine am 48 ?_
        iterate 3 refine ak _ ?_
        refine apf ?_;refine apf ?_;refine am 54 ?_;refine af 55 tok ?_;refine al 56 tok ?_;refine aqb ?_;refine am 58 ?_;refine AOps.split 58 rfl (fun hb21 => ?_) (fun hb21 => ?_)
        ·
         refine af 59 tok ?_;refine al 60 tok ?_;refine aq 61 (q_len tok rfl rfl rfl rfl rfl) ?_;refine aqb ?_;refine apt ?_;refine apf ?_;refine am 65 ?_;refine AOps.split 65 rfl (fun hb22 => ?_) (fun hb22 => ?_)
         ·
          iterate 14 refine ak _ ?_
          refine apt ?_;refine an ?_;exact ⟨_, Sub.mk' z34q z13q, z7q⟩
         ·
          refine af 66 tok ?_;refine al 67 tok ?_;refine aqb ?_;refine am 69 ?_;refine AOps.split 69 rfl (fun hb23 => ?_) (fun hb23 => ?_)
          ·
           refine af 70 tok ?_;refine al 71 tok ?_;refine aqb ?_;refine apt ?_;refine am 74 ?_;refine AOps.split 74 rfl (fun hb24 => ?_) (fun hb24 => ?_)
           ·
            refine af 75 tok ?_;refine al 76 tok ?_;refine aq 77 (q_len tok rfl rfl rfl rfl rfl) ?_;refine aqb ?_;refine apt ?_;refine apf ?_;refine an ?_;exact ⟨_, Sub.mk' z34q z13q, z7q⟩
           ·
            iterate 4 refine ak _ ?_
            refine apf ?_;refine apf ?_;refine an ?_;exact ⟨_, Sub.mk' z34q z13q, z7q⟩
          ·
           iterate 3 refine ak _ ?_
           refine apf ?_;refine am 74 ?_
           iterate 4 refine ak _ ?_
           refine apf ?_;refine apf ?_;refine an ?_;exact ⟨_, Sub.mk' z34q z13q, z7q⟩
        ·
         iterate 4 refine ak _ ?_
         refine apf ?_;refine apf ?_;refine am 65 ?_;refine af 66 tok ?_;refine al 67 tok ?_;refine aqb ?_;refine am 69 ?_;refine AOps.split 69 rfl (fun hb25 => ?_) (fun hb25 => ?_)
         ·
          refine af 70 tok ?_;refine al 71 tok ?_;refine aqb ?_;refine apt ?_;refine am 74 ?_;refine AOps.split 74 rfl (fun hb26 => ?_) (fun hb26 => ?_)
          ·
           refine af 75 tok ?_;refine al 76 tok ?_;refine aq 77 (q_len tok rfl rfl rfl rfl rfl) ?_;refine aqb ?_;refine apt ?_;refine apf ?_;refine an ?_;exact ⟨_, Sub.mk' z34q z13q, z7q⟩
          ·
           iterate 4 refine ak _ ?_
           refine apf ?_;refine apf ?_;refine an ?_;exact ⟨_, Sub.mk' z34q z13q, z7q⟩
         ·
          iterate 3 refine ak _ ?_
          refine apf ?_;refine am 74 ?_
          iterate 4 refine ak _ ?_
          refine apf ?_;refine apf ?_;refine an ?_;exact ⟨_, Sub.mk' z34q z13q, z7q⟩
      ·
       iterate 3 refine ak _ ?_
       refine apf ?_;refine am 43 ?_
       iterate 3 refine ak _ ?_
       refine apf ?_;refine am 48 ?_
       iterate 3 refine ak _ ?_
       refine apf ?_;refine apf ?_;refine am 54 ?_;refine af 55 tok ?_;refine al 56 tok ?_;refine aqb ?_;refine am 58 ?_;refine AOps.split 58 rfl (fun hb27 => ?_) (fun hb27 => ?_)
       ·
        refine af 59 tok ?_;refine al 60 tok ?_;refine aq 61 (q_len tok rfl rfl rfl rfl rfl) ?_;refine aqb ?_;refine apt ?_;refine apf ?_;refine am 65 ?_;refine AOps.split 65 rfl (fun hb28 => ?_) (fun hb28 => ?_)
        ·
         iterate 14 refine ak _ ?_
         refine apt ?_;refine an ?_;exact ⟨_, Sub.mk' z34q z13q, z7q⟩
        ·
         refine af 66 tok ?_;refine al 67 tok ?_;refine aqb ?_;refine am 69 ?_;refine AOps.split 69 rfl (fun hb29 => ?_) (fun hb29 => ?_)
         ·
          refine af 70 tok ?_;refine al 71 tok ?_;refine aqb ?_;refine apt ?_;refine am 74 ?_;refine AOps.split 74 rfl (fun hb30 => ?_) (fun hb30 => ?_)
          ·
           refine af 75 tok ?_;refine al 76 tok ?_;refine aq 77 (q_len tok rfl rfl rfl rfl rfl) ?_;refine aqb ?_;refine apt ?_;refine apf ?_;refine an ?_;exact ⟨_, Sub.mk' z34q z13q, z7q⟩
          ·
           iterate 4 refine ak _ ?_
           refine apf ?_;refine apf ?_;refine an ?_;exact ⟨_, Sub.mk' z34q z13q, z7q⟩
         ·
          iterate 3 refine ak _ ?_
          refine apf ?_;refine am 74 ?_
          iterate 4 refine ak _ ?_
          refine apf ?_;refine apf ?_;refine an ?_;exact ⟨_, Sub.mk' z34q z13q, z7q⟩
       ·
        iterate 4 refine ak _ ?_
        refine apf ?_;refine apf ?_;refine am 65 ?_;refine af 66 tok ?_;refine al 67 tok ?_;refine aqb ?_;refine am 69 ?_;refine AOps.split 69 rfl (fun hb31 => ?_) (fun hb31 => ?_)
        ·
         refine af 70 tok ?_;refine al 71 tok ?_;refine aqb ?_;refine apt ?_;refine am 74 ?_;refine AOps.split 74 rfl (fun hb32 => ?_) (fun hb32 => ?_)
         ·
          refine af 75 tok ?_;refine al 76 tok ?_;refine aq 77 (q_len tok rfl rfl rfl rfl rfl) ?_;refine aqb ?_;refine apt ?_;refine apf ?_;refine an ?_;exact ⟨_, Sub.mk' z34q z13q, z7q⟩
         ·
          iterate 4 refine ak _ ?_
          refine apf ?_;refine apf ?_;refine an ?_;exact ⟨_, Sub.mk' z34q z13q, z7q⟩
        ·
         iterate 3 refine ak _ ?_
         refine apf ?_;refine am 74 ?_
         iterate 4 refine ak _ ?_
         refine apf ?_;refine apf ?_;refine an ?_;exact ⟨_, Sub.mk' z34q z13q, z7q⟩
    ·
     iterate 3 refine ak _ ?_
     refine apf ?_;refine apf ?_;refine am 34 ?_;refine af 35 tok ?_;refine al 36 tok ?_;refine aqb ?_;refine am 38 ?_;refine AOps.split 38 rfl (fun hb33 => ?_) (fun hb33 => ?_)
     ·
      refine af 39 tok ?_;refine al 40 tok ?_;refine aqb ?_;refine apt ?_;refine am 43 ?_;refine AOps.split 43 rfl (fun hb34 => ?_) (fun hb34 => ?_)
      ·
       refine af 44 tok ?_;refine al 45 tok ?_;refine aqb ?_;refine apt ?_;refine am 48 ?_;refine AOps.split 48 rfl (fun hb35 => ?_) (fun hb35 => ?_)
       ·
        refine af 49 tok ?_;refine al 50 tok ?_;refine aqb ?_;refine apt ?_;refine apf ?_;refine am 54 ?_;refine AOps.split 54 rfl (fun hb36 => ?_) (fun hb36 => ?_)
        ·
         iterate 9 refine ak _ ?_
         refine apt ?_;refine am 65 ?_
         iterate 14 refine ak _ ?_
         refine apt ?_;refine an ?_;exact ⟨_, Sub.mk' z34q z13q, z7q⟩
        ·
         refine af 55 tok ?_;refine al 56 tok ?_;refine aqb ?_;refine am 58 ?_;refine AOps.split 58 rfl (fun hb37 => ?_) (fun hb37 => ?_)
         ·
          refine af 59 tok ?_;refine al 60 tok ?_;refine aq 61 (q_len tok rfl rfl rfl rfl rfl) ?_;refine aqb ?_;refine apt ?_;refine apf ?_;refine am 65 ?_;refine AOps.split 65 rfl (fun hb38 => ?_) (fun hb38 => ?_)
          ·
           iterate 14 refine ak _ ?_
           refine apt ?_;refine an ?_;exact ⟨_, Sub.mk' z34q z13q, z7q⟩
          ·
           refine af 66 tok ?_;refine al 67 tok ?_;refine aqb ?_;refine am 69 ?_;refine AOps.split 69 rfl (fun hb39 => ?_) (fun hb39 => ?_)
           ·
            refine af 70 tok ?_;refine al 71 tok ?_;refine aqb ?_;refine apt ?_;refine am 74 ?_;refine AOps.split 74 rfl (fun hb40 => ?_) (fun hb40 => ?_)
            ·
             refine af 75 tok ?_;refine al 76 tok ?_;refine aq 77 (q_len tok rfl rfl rfl rfl rfl) ?_;refine aqb ?_;refine apt ?_;refine apf ?_;refine an ?_;exact ⟨_, Sub.mk' z34q z13q, z7q⟩
            ·
             iterate 4 refine ak _ ?_
             refine apf ?_;refine apf ?_;refine an ?_;exact ⟨_, Sub.mk' z34q z13q, z7q⟩
           ·
            iterate 3 refine ak _ ?_
            refine apf ?_;refine am 74 ?_
            iterate 4 refine ak _ ?_
            refine apf ?_;refine apf ?_;refine an ?_;exact ⟨_, Sub.mk' z34q z13q, z7q⟩
         ·
          iterate 4 refine ak _ ?_
          refine apf ?_;refine apf ?_;refine am 65 ?_;refine af 66 tok ?_;refine al 67 tok ?_;refine aqb ?_;refine am 69 ?_;refine AOps.split 69 rfl (fun hb41 => ?_) (fun hb41 => ?_)
          ·
           refine af 70 tok ?_;refine al 71 tok ?_;refine aqb ?_;refine apt ?_;refine am 74 ?_;refine AOps.split 74 rfl (fun hb42 => ?_) (fun hb42 => ?_)
           ·
            refine af 75 tok ?_;refine al 76 tok ?_;refine aq 77 (q_len tok rfl rfl rfl rfl rfl) ?_;refine aqb ?_;refine apt ?_;refine apf ?_;refine an ?_;exact ⟨_, Sub.mk' z34q z13q, z7q⟩
           ·
            iterate 4 refine ak _ ?_
            refine apf ?_;refine apf ?_;refine an ?_;exact ⟨_, Sub.mk' z34q z13q, z7q⟩
          ·
           iterate 3 refine ak _ ?_
           refine apf ?_;refine am 74 ?_
           iterate 4 refine ak _ ?_
           refine apf ?_;refine apf ?_;refine an ?_;exact ⟨_, Sub.mk' z34q z13q, z7q⟩
       ·
        iterate 3 refine ak _ ?_
        refine apf ?_;refine apf ?_;refine am 54 ?_;refine af 55 tok ?_;refine al 56 tok ?_;refine aqb ?_;refine am 58 ?_;refine AOps.split 58 rfl (fun hb43 => ?_) (fun hb43 => ?_)
        ·
         refine af 59 tok ?_;refine al 60 tok ?_;refine aq 61 (q_len tok rfl rfl rfl rfl rfl) ?_;refine aqb ?_;refine apt ?_;refine apf ?_;refine am 65 ?_;refine AOps.split 65 rfl (fun hb44 => ?_) (fun hb44 => ?_)
         ·
          iterate 14 refine ak _ ?_
          refine apt ?_;refine an ?_;exact ⟨_, Sub.mk' z34q z13q, z7q⟩
         ·
          refine af 66 tok ?_;refine al 67 tok ?_;refine aqb ?_;refine am 69 ?_;refine AOps.split 69 rfl (fun hb45 => ?_) (fun hb45 => ?_)
          ·
           refine af 70 tok ?_;refine al 71 tok ?_;refine aqb ?_;refine apt ?_;refine am 74 ?_;refine AOps.split 74 rfl (fun hb46 => ?_) (fun hb46 => ?_)
           ·
            refine af 75 tok ?_;refine al 76 tok ?_;refine aq 77 (q_len tok rfl rfl rfl rfl rfl) ?_;refine aqb ?_;refine apt ?_;refine apf ?_;refine an ?_;exact ⟨_, Sub.mk' z34q z13q, z7q⟩
           ·
            iterate 4 refine ak _ ?_
            refine apf ?_;refine apf ?_;refine an ?_;exact ⟨_, Sub.mk' z34q z13q, z7q⟩
          ·
           iterate 3 refine ak _ ?_
           refine apf ?_;refine am 74 ?_
           iterate 4 refine ak _ ?_
           refine apf ?_;refine apf ?_;refine an ?_;exact ⟨_, Sub.mk' z34q z13q, z7q⟩
        ·
         iterate 4 refine ak _ ?_
         refine apf ?_;refine apf ?_;refine am 65 ?_;refine af 66 tok ?_;refine al 67 tok ?_;refine aqb ?_;refine am 69 ?_;refine AOps.split 69 rfl (fun hb47 => ?_) (fun hb47 => ?_)
         ·
          refine af 70 tok ?_;refine al 71 tok ?_;refine aqb ?_;refine apt ?_;refine am 74 ?_;refine AOps.split 74 rfl (fun hb48 => ?_) (fun hb48 => ?_)
          ·
           refine af 75 tok ?_;refine al 76 tok ?_;refine aq 77 (q_len tok rfl rfl rfl rfl rfl) ?_;refine aqb ?_;refine apt ?_;refine apf ?_;refine an ?_;exact ⟨_, Sub.mk' z34q z13q, z7q⟩
          ·
           iterate 4 refine ak _ ?_
           refine apf ?_;refine apf ?_;refine an ?_;exact ⟨_, Sub.mk' z34q z13q, z7q⟩
         ·
          iterate 3 refine ak _ ?_
          refine apf ?_;refine am 74 ?_
          iterate 4 refine ak _ ?_
          refine apf ?_;refine apf ?_;refine an ?_;exact ⟨_, Sub.mk' z34q z13q, z7q⟩
      ·
       iterate 3 refine ak _ ?_
       refine apf ?_;refine am 48 ?_
       iterate 3 refine ak _ ?_
       refine apf ?_;refine apf ?_;refine am 54 ?_;refine af 55 tok ?_;refine al 56 tok ?_;refine aqb ?_;refine am 58 ?_;refine AOps.split 58 rfl (fun hb49 => ?_) (fun hb49 => ?_)
       ·
        refine af 59 tok ?_;refine al 60 tok ?_;refine aq 61 (q_len tok rfl rfl rfl rfl rfl) ?_;refine aqb ?_;refine apt ?_;refine apf ?_;refine am 65 ?_;refine AOps.split 65 rfl (fun hb50 => ?_) (fun hb50 => ?_)
        ·
         iterate 14 refine ak _ ?_
         refine apt ?_;refine an ?_;exact ⟨_, Sub.mk' z34q z13q, z7q⟩
        ·
         refine af 66 tok ?_;refine al 67 tok ?_;refine aqb ?_;refine am 69 ?_;refine AOps.split 69 rfl (fun hb51 => ?_) (fun hb51 => ?_)
         ·
          refine af 70 tok ?_;refine al 71 tok ?_;refine aqb ?_;refine apt ?_;refine am 74 ?_;refine AOps.split 74 rfl (fun hb52 => ?_) (fun hb52 => ?_)
          ·
           refine af 75 tok ?_;refine al 76 tok ?_;refine aq 77 (q_len tok rfl rfl rfl rfl rfl) ?_;refine aqb ?_;refine apt ?_;refine apf ?_;refine an ?_;exact ⟨_, Sub.mk' z34q z13q, z7q⟩
          ·
           iterate 4 refine ak _ ?_
           refine apf ?_;refine apf ?_;refine an ?_;exact ⟨_, Sub.mk' z34q z13q, z7q⟩
         ·
          iterate 3 refine ak _ ?_
          refine apf ?_;refine am 74 ?_
          iterate 4 refine ak _ ?_
          refine apf ?_;refine apf ?_;refine an ?_;exact ⟨_, Sub.mk' z34q z13q, z7q⟩
       ·
        iterate 4 refine ak _ ?_
        refine apf ?_;refine apf ?_;refine am 65 ?_;refine af 66 tok ?_;refine al 67 tok ?_;refine aqb ?_;refine am 69 ?_;refine AOps.split 69 rfl (fun hb53 => ?_) (fun hb53 => ?_)
        ·
         refine af 70 tok ?_;refine al 71 tok ?_;refine aqb ?_;refine apt ?_;refine am 74 ?_;refine AOps.split 74 rfl (fun hb54 => ?_) (fun hb54 => ?_)
         ·
          refine af 75 tok ?_;refine al 76 tok ?_;refine aq 77 (q_len tok rfl rfl rfl rfl rfl) ?_;refine aqb ?_;refine apt ?_;refine apf ?_;refine an ?_;exact ⟨_, Sub.mk' z34q z13q, z7q⟩
         ·
          iterate 4 refine ak _ ?_
          refine apf ?_;refine apf ?_;refine an ?_;exact ⟨_, Sub.mk' z34q z13q, z7q⟩
        ·
         iterate 3 refine ak _ ?_
         refine apf ?_;refine am 74 ?_
         iterate 4 refine ak _ ?_
         refine apf ?_;refine apf ?_;refine an ?_;exact ⟨_, Sub.mk' z34q z13q, z7q⟩
     ·
      iterate 3 refine ak _ ?_
      refine apf ?_;refine am 43 ?_
      iterate 3 refine ak _ ?_
      refine apf ?_;refine am 48 ?_
      iterate 3 refine ak _ ?_
      refine apf ?_;refine apf ?_;refine am 54 ?_;refine af 55 tok ?_;refine al 56 tok ?_;refine aqb ?_;refine am 58 ?_;refine AOps.split 58 rfl (fun hb55 => ?_) (fun hb55 => ?_)
      ·
       refine af 59 tok ?_;refine al 60 tok ?_;refine aq 61 (q_len tok rfl rfl rfl rfl rfl) ?_;refine aqb ?_;refine apt ?_;refine apf ?_;refine am 65 ?_;refine AOps.split 65 rfl (fun hb56 => ?_) (fun hb56 => ?_)
       ·
        iterate 14 refine ak _ ?_
        refine apt ?_;refine an ?_;exact ⟨_, Sub.mk' z34q z13q, z7q⟩
       ·
        refine af 66 tok ?_;refine al 67 tok ?_;refine aqb ?_;refine am 69 ?_;refine AOps.split 69 rfl (fun hb57 => ?_) (fun hb57 => ?_)
        ·
         refine af 70 tok ?_;refine al 71 tok ?_;refine aqb ?_;refine apt ?_;refine am 74 ?_;refine AOps.split 74 rfl (fun hb58 => ?_) (fun hb58 => ?_)
         ·
          refine af 75 tok ?_;refine al 76 tok ?_;refine aq 77 (q_len tok rfl rfl rfl rfl rfl) ?_;refine aqb ?_;refine apt ?_;refine apf ?_;refine an ?_;exact ⟨_, Sub.mk' z34q z13q, z7q⟩
         ·
          iterate 4 refine ak _ ?_
          refine apf ?_;refine apf ?_;refine an ?_;exact ⟨_, Sub.mk' z34q z13q, z7q⟩
        ·
         iterate 3 refine ak _ ?_
         refine apf ?_;refine am 74 ?_
         iterate 4 refine ak _ ?_
         refine apf ?_;refine apf ?_;refine an ?_;exact ⟨_, Sub.mk' z34q z13q, z7q⟩
      ·
       iterate 4 refine ak _ ?_
       refine apf ?_;refine apf ?_;refine am 65 ?_;refine af 66 tok ?_;refine al 67 tok ?_;refine aqb ?_;refine am 69 ?_;refine AOps.split 69 rfl (fun hb59 => ?_) (fun hb59 => ?_)
       ·
        refine af 70 tok ?_;refine al 71 tok ?_;refine aqb ?_;refine apt ?_;refine am 74 ?_;refine AOps.split 74 rfl (fun hb60 => ?_) (fun hb60 => ?_)
        ·
         refine af 75 tok ?_;refine al 76 tok ?_;refine aq 77 (q_len tok rfl rfl rfl rfl rfl) ?_;refine aqb ?_;refine apt ?_;refine apf ?_;refine an ?_;exact ⟨_, Sub.mk' z34q z13q, z7q⟩
        ·
         iterate 4 refine ak _ ?_
         refine apf ?_;refine apf ?_;refine an ?_;exact ⟨_, Sub.mk' z34q z13q, z7q⟩
       ·
        iterate 3 refine ak _ ?_
        refine apf ?_;refine am 74 ?_
        iterate 4 refine ak _ ?_
        refine apf ?_;refine apf ?_;refine an ?_;exact ⟨_, Sub.mk' z34q z13q, z7q⟩
  intro b hB
  refine AGo.split 80 rfl (fun hb61 => ?_) (fun hb61 => ?_)
  ·
   refine act ?_
   have hbad : x.right C f gf.word level = false := sright_bare hB hb61
   refine asr ?_
   refine aa 8 ?_
   refine an ?_
   refine AGo.ret ?_
   refine ⟨[_], ⟨rfl, trivial⟩, ?_, rfl⟩
   show AV.bool _ = AV.bool _
   congr 1
   rw [CS.rightL_all, all_bad hx hbad]
  ·
   refine acf ?_
   have hby := sbare_yes hB hb61
   refine AGo.skip ?_
   refine asr ?_
   refine aa 11 ?_
   refine an ?_
   refine AGo.seq ?_
   refine asr ?_
   refine af 81 tok ?_
   refine al 82 tok ?_
   refine an ?_
   refine AGo.join (γ := Int) (fun n => ⟨175, (eput (eput (eput (eput (eput (eput (eput eNew 1 (.int .i64 f)) 2 (.lst false (l.map CS.cells))) 3 (.int .i64 level)) 4 (.ptr 0 1 0 0)) 9 (.int .i64 (k : Int))) 10 (.ptr 1 1 0 0)) 11 (.int .i64 n)), (hput (hput (hFrom 2) 0 (.row false 2 [C.cells])) 1 (.row false 6 [x.row]))⟩) (fun n => n = x.cnt gf.word ∧ x.most C f = true) ?_ ?_
   ·
    refine AGo.block ?_;refine asr ?_;refine aqb ?_;refine aa 83 ?_;refine an ?_;refine AGo.split 83 rfl (fun hb62 => ?_) (fun hb62 => ?_)
    ·
     refine act ?_;refine asr ?_;refine al 85 tok ?_;refine af 86 tok ?_;refine al 87 tok ?_;refine ax 88 (o_pure rfl Try.func62 (by kernel_rfl) rfl rfl rfl (within19_ok C _ _ h0 h1)) ?_;refine aq 89 (q_not rfl rfl) ?_;refine an ?_;refine AGo.split 89 rfl (fun hb63 => ?_) (fun hb63 => ?_)
     ·
      refine act ?_;refine asr ?_;refine aa 8 ?_;refine an ?_;refine AGo.ret ?_;refine ⟨[_], ⟨rfl, trivial⟩, ?_, rfl⟩
      show AV.bool _ = AV.bool _
      congr 1
      rw [CS.rightL_all, all_bad hx (sright_most (by simp_all [CS.most] <;> omega))]
     ·
      refine acf ?_;refine AGo.skip ?_;exact ⟨_, Sub.mk' z34q z13q, ⟨by first | (simp_all [CS.cnt]; done) | (simp_all [CS.cnt]; cases h_ : ((x.es.length : Int) == 0) <;> simp_all), by simp_all [CS.most]⟩⟩
    ·
     refine acf ?_;refine asr ?_;refine aqb ?_;refine aa 90 ?_;refine an ?_;refine AGo.split 90 rfl (fun hb64 => ?_) (fun hb64 => ?_)
     ·
      refine act ?_;refine asr ?_;refine aa 11 ?_;refine an ?_;refine asr ?_;refine af 92 tok ?_;refine al 93 tok ?_;refine aqb ?_;refine am 95 ?_;refine AOps.split 95 rfl (fun hb65 => ?_) (fun hb65 => ?_)
      ·
       iterate 3 refine ak _ ?_
       refine apt ?_;refine am 100 ?_
       iterate 7 refine ak _ ?_
       refine apt ?_;refine an ?_;refine act ?_;refine asr ?_;refine aa 8 ?_;refine an ?_;refine AGo.ret ?_;refine ⟨[_], ⟨rfl, trivial⟩, ?_, rfl⟩
       show AV.bool _ = AV.bool _
       congr 1
       rw [CS.rightL_all, all_bad hx (sright_most (by simp_all [CS.most] <;> omega))]
      ·
       refine af 96 tok ?_;refine al 97 tok ?_;refine aqb ?_;refine apf ?_;refine am 100 ?_;refine AOps.split 100 rfl (fun hb66 => ?_) (fun hb66 => ?_)
       ·
        iterate 7 refine ak _ ?_
        refine apt ?_;refine an ?_;refine act ?_;refine asr ?_;refine aa 8 ?_;refine an ?_;refine AGo.ret ?_;refine ⟨[_], ⟨rfl, trivial⟩, ?_, rfl⟩
        show AV.bool _ = AV.bool _
        congr 1
        rw [CS.rightL_all, all_bad hx (sright_most (by simp_all [CS.most] <;> omega))]
       ·
        refine al 101 tok ?_;refine af 102 tok ?_;refine al 103 tok ?_;refine af 104 tok ?_;refine al 105 tok ?_;refine ax 106 (o_pure rfl Try.func62 (by kernel_rfl) rfl rfl rfl (within19_ok C _ _ h0 h1)) ?_;refine aq 107 (q_not rfl rfl) ?_;refine apf ?_;refine an ?_;refine AGo.split 108 rfl (fun hb67 => ?_) (fun hb67 => ?_)
        ·
         refine act ?_;refine asr ?_;refine aa 8 ?_;refine an ?_;refine AGo.ret ?_;refine ⟨[_], ⟨rfl, trivial⟩, ?_, rfl⟩
         show AV.bool _ = AV.bool _
         congr 1
         rw [CS.rightL_all, all_bad hx (sright_most (by simp_all [CS.most] <;> omega))]
        ·
         refine acf ?_;refine AGo.skip ?_;exact ⟨_, Sub.mk' z34q z13q, ⟨by first | (simp_all [CS.cnt]; done) | (simp_all [CS.cnt]; cases h_ : ((x.es.length : Int) == 0) <;> simp_all), by simp_all [CS.most]⟩⟩
     ·
      refine acf ?_;refine AGo.seq ?_;refine asr ?_;refine aqb ?_;refine aa 109 ?_;refine an ?_;refine AGo.split 109 rfl (fun hb68 => ?_) (fun hb68 => ?_)
      ·
       refine act ?_;refine AGo.skip ?_;refine act ?_;refine AGo.skip ?_;exact ⟨_, Sub.mk' z34q z13q, ⟨by first | (simp_all [CS.cnt]; done) | (simp_all [CS.cnt]; cases h_ : ((x.es.length : Int) == 0) <;> simp_all), by simp_all [CS.most]⟩⟩
      ·
       refine acf ?_;refine asr ?_;refine aqb ?_;refine aa 109 ?_;refine an ?_;refine AGo.split 109 rfl (fun hb69 => ?_) (fun hb69 => ?_)
       ·
        refine act ?_;refine AGo.skip ?_;refine act ?_;refine AGo.skip ?_;exact ⟨_, Sub.mk' z34q z13q, ⟨by first | (simp_all [CS.cnt]; done) | (simp_all [CS.cnt]; cases h_ : ((x.es.length : Int) == 0) <;> simp_all), by simp_all [CS.most]⟩⟩
       ·
        refine acf ?_;refine AGo.region ?_;refine aqb ?_;refine aa 109 ?_;refine an ?_;refine AGo.split 109 rfl (fun hb70 => ?_) (fun hb70 => ?_)
        ·
         refine act ?_;refine AGo.skip ?_;exact ⟨_, Sub.mk' z34q z13q, ⟨by first | (simp_all [CS.cnt]; done) | (simp_all [CS.cnt]; cases h_ : ((x.es.length : Int) == 0) <;> simp_all), by simp_all [CS.most]⟩⟩
        ·
         refine acf ?_;refine asr ?_;refine aqb ?_;refine aa 113 ?_;refine an ?_;refine AGo.split 113 rfl (fun hb71 => ?_) (fun hb71 => ?_)
         ·
          refine act ?_;refine asr ?_;refine af 115 tok ?_;refine al 116 tok ?_;refine aq 117 (q_len tok rfl rfl rfl rfl rfl) ?_;refine aa 11 ?_;refine an ?_;refine asr ?_;refine al 118 tok ?_;refine am 119 ?_;refine af 120 tok ?_;refine al 121 tok ?_;refine am 122 ?_;refine ax 123 (o_pure rfl Try.func85 (by kernel_rfl) rfl rfl rfl (callee19_ok C f _ _ _ (hfs _))) ?_;refine aq 124 (q_not rfl rfl) ?_;refine an ?_;refine AGo.split 124 rfl (fun hb72 => ?_) (fun hb72 => ?_)
          ·
           refine act ?_;refine asr ?_;refine aa 8 ?_;refine an ?_;refine AGo.ret ?_;refine ⟨[_], ⟨rfl, trivial⟩, ?_, rfl⟩
           show AV.bool _ = AV.bool _
           congr 1
           rw [CS.rightL_all, all_bad hx (sright_most (by simp_all [CS.most] <;> omega))]
          ·
           refine acf ?_;refine AGo.skip ?_;exact ⟨_, Sub.mk' z34q z13q, ⟨by first | (simp_all [CS.cnt]; done) | (simp_all [CS.cnt]; cases h_ : ((x.es.length : Int) == 0) <;> simp_all), by simp_all [CS.most]⟩⟩
         ·
          refine acf ?_;refine asr ?_;refine aqb ?_;refine aa 125 ?_;refine an ?_;refine AGo.split 125 rfl (fun hb73 => ?_) (fun hb73 => ?_)
          ·
           refine act ?_;refine asr ?_;refine af 127 tok ?_;refine al 128 tok ?_;refine aq 129 (q_len tok rfl rfl rfl rfl rfl) ?_;refine aqb ?_;refine am 131 ?_;refine AOps.split 131 rfl (fun hb74 => ?_) (fun hb74 => ?_)
           ·
            iterate 7 refine ak _ ?_
            refine apt ?_;refine an ?_;refine act ?_;refine AGo.region ?_;refine aa 11 ?_;refine an ?_;exact ⟨_, Sub.mk' z34q z13q, ⟨by first | (simp_all [CS.cnt]; done) | (simp_all [CS.cnt]; cases h_ : ((x.es.length : Int) == 0) <;> simp_all), by simp_all [CS.most]⟩⟩
           ·
            refine af 132 tok ?_;refine al 133 tok ?_;refine am 134 ?_;refine aq 135 (q_index_lst tok rfl rfl rfl rfl rfl rfl hf0 (idx_map2 hgf) rfl) ?_;refine af 136 tok ?_;refine al 137 tok ?_;refine aq 138 (q_not rfl rfl) ?_;refine apf ?_;refine an ?_;refine AGo.split 139 rfl (fun hb75 => ?_) (fun hb75 => ?_)
            ·
             refine act ?_;refine AGo.region ?_;refine aa 11 ?_;refine an ?_;exact ⟨_, Sub.mk' z34q z13q, ⟨by first | (simp_all [CS.cnt]; done) | (simp_all [CS.cnt]; cases h_ : ((x.es.length : Int) == 0) <;> simp_all), by simp_all [CS.most]⟩⟩
            ·
             refine acf ?_;refine AGo.skip ?_;exact ⟨_, Sub.mk' z34q z13q, ⟨by first | (simp_all [CS.cnt]; done) | (simp_all [CS.cnt]; cases h_ : ((x.es.length : Int) == 0) <;> simp_all), by simp_all [CS.most]⟩⟩
          ·
           refine acf ?_;refine asr ?_;refine aa 8 ?_;refine an ?_;refine AGo.ret ?_;refine ⟨[_], ⟨rfl, trivial⟩, ?_, rfl⟩
           show AV.bool _ = AV.bool _
           congr 1
           rw [CS.rightL_all, all_bad hx (sright_most (by simp_all [CS.most] <;> omega))]
   intro n hN
   refine AGo.seq ?_
   refine AGo.join (γ := Bool) (fun c => ⟨175, (eput (eput (eput (eput (eput (eput (eput eNew 1 (.int .i64 f)) 2 (.lst false (l.map CS.cells))) 3 (.int .i64 level)) 4 (.ptr 0 1 0 0)) 9 (.int .i64 (k : Int))) 10 (.ptr 1 1 0 0)) 174 (.bool c)), (hput (hput (hFrom 2) 0 (.row false 2 [C.cells])) 1 (.row false 6 [x.row]))⟩) (fun c => (c = true → x.right C f gf.word level = false) ∧ (c = false → x.right C f gf.word level = true)) ?_ ?_
   ·
    refine AGo.region ?_;refine af 140 tok ?_;refine al 141 tok ?_;refine aq 142 (q_len tok rfl rfl rfl rfl rfl) ?_;refine am 143 ?_;refine aqb ?_;refine am 145 ?_;refine AOps.split 145 rfl (fun hb76 => ?_) (fun hb76 => ?_)
    ·
     iterate 8 refine ak _ ?_
     refine apt ?_;refine am 155 ?_
     iterate 8 refine ak _ ?_
     refine apt ?_;refine am 165 ?_
     iterate 8 refine ak _ ?_
     refine apt ?_;refine an ?_;exact ⟨_, Sub.mk' z34q z13q, ⟨fun hc => sright_bad (by simp_all), fun hc => sright_yes hby hN.2 (by simp_all) (by simp_all) (by simp_all) (by simp_all)⟩⟩
    ·
     refine al 146 tok ?_;refine am 147 ?_;refine af 148 tok ?_;refine al 149 tok ?_;refine am 150 ?_;refine aq 151 (q_bin (r := .int .i64 (level + 1)) rfl rfl rfl z29q) ?_;refine ax 152 (o_pure rfl Try.func86 (by kernel_rfl) rfl rfl rfl (rightE_ok C f h0 h1 hfs 1000 x.es (level + 1) (by omega) hxk.esOk.1 hxk.esOk.2 (by omega) (by omega))) ?_;refine aq 153 (q_not rfl rfl) ?_;refine apf ?_;refine am 155 ?_;refine AOps.split 155 rfl (fun hb77 => ?_) (fun hb77 => ?_)
     ·
      iterate 8 refine ak _ ?_
      refine apt ?_;refine am 165 ?_
      iterate 8 refine ak _ ?_
      refine apt ?_;refine an ?_;exact ⟨_, Sub.mk' z34q z13q, ⟨fun hc => sright_bad (by simp_all), fun hc => sright_yes hby hN.2 (by simp_all) (by simp_all) (by simp_all) (by simp_all)⟩⟩
     ·
      refine al 156 tok ?_;refine am 157 ?_;refine af 158 tok ?_;refine al 159 tok ?_;refine am 160 ?_;refine aq 161 (q_bin (r := .int .i64 (level + 1)) rfl rfl rfl z29q) ?_;refine ax 162 (o_pure rfl Try.func63 (by kernel_rfl) rfl rfl rfl ((hrec hby.1 x hxm).1)) ?_;refine aq 163 (q_not rfl rfl) ?_;refine apf ?_;refine am 165 ?_;refine AOps.split 165 rfl (fun hb78 => ?_) (fun hb78 => ?_)
      ·
       iterate 8 refine ak _ ?_
       refine apt ?_;refine an ?_;exact ⟨_, Sub.mk' z34q z13q, ⟨fun hc => sright_bad (by simp_all), fun hc => sright_yes hby hN.2 (by simp_all) (by simp_all) (by simp_all) (by simp_all)⟩⟩
      ·
       refine al 166 tok ?_;refine am 167 ?_;refine af 168 tok ?_;refine al 169 tok ?_;refine am 170 ?_;refine aq 171 (q_bin (r := .int .i64 (level + 1)) rfl rfl rfl z29q) ?_;refine ax 172 (o_pure rfl Try.func63 (by kernel_rfl) rfl rfl rfl ((hrec hby.1 x hxm).2)) ?_;refine aq 173 (q_not rfl rfl) ?_;refine apf ?_;refine an ?_;exact ⟨_, Sub.mk' z34q z13q, ⟨fun hc => sright_bad (by simp_all), fun hc => sright_yes hby hN.2 (by simp_all) (by simp_all) (by simp_all) (by simp_all)⟩⟩
   intro c hC
   refine AGo.split 174 rfl (fun hb79 => ?_) (fun hb79 => ?_)
   ·
    refine act ?_
    have hno := hC.1 hb79
    refine asr ?_;refine aa 8 ?_;refine an ?_;refine AGo.ret ?_;refine ⟨[_], ⟨rfl, trivial⟩, ?_, rfl⟩
    show AV.bool _ = AV.bool _
    congr 1
    rw [CS.rightL_all, all_bad hx hno]
   ·
    refine acf ?_
    have hyes := hC.2 hb79
    refine AGo.skip ?_;refine AGo.region ?_;refine am 16 ?_;refine aq 17 (q_inc rfl rfl hkl hlen) ?_;refine aa 9 ?_;refine an ?_;exact ⟨k+1, Drop.mk' z22q z17q, all_succ hx hk hyes, by omega⟩
 ·
  refine acf ?_
  have hge := ge_of_idx hb1
  refine AGo.exit ?_
  refine asr ?_
  refine aa 8 ?_
  refine an ?_
  refine AGo.ret ?_
  refine ⟨[_], ⟨rfl, trivial⟩, ?_, rfl⟩
  show AV.bool _ = AV.bool _
  congr 1
  rw [CS.rightL_all, all_end hk hge]
theorem rightS_ok (C : Core) (f : Int) (h0 : 0 ≤ C.words) (h1 : C.words ≤ 1000000) (hfs : ∀ g, 0 ≤ g → g < f → ∃ fn, C.funcs[g.toNat]? = some fn) (hf0 : 0 ≤ f) (gf : CFn) (hgf : C.funcs[f.toNat]? = some gf) : ∀ (n : Nat) (l : List CS) (level : Int), 25 - level < n → (∀ e ∈ l, e.Ok) → l.length * 96 ≤ reachBytes → 0 ≤ level → level ≤ 900 → APure Try.prog 63 [.agg C.cells, .int .i64 f, (.lst false (l.map CS.cells)), .int .i64 level] (fun r => r = .bool (CS.rightL C f gf.word l level))
  | 0, l, level, hn, hk, hl, h2, h3 => rightS_step C f h0 h1 hfs hf0 gf hgf l level hk (len96 hl) h2 h3 fun h => absurd h (by omega)
  | n + 1, l, level, hn, hk, hl, h2, h3 => rightS_step C f h0 h1 hfs hf0 gf hgf l level hk (len96 hl) h2 h3 fun h x hx => ⟨rightS_ok C f h0 h1 hfs hf0 gf hgf n x.thn (level + 1) (by omega) (hk x hx).thnOk.1 (hk x hx).thnOk.2 (by omega) (by omega), rightS_ok C f h0 h1 hfs hf0 gf hgf n x.els (level + 1) (by omega) (hk x hx).elsOk.1 (hk x hx).elsOk.2 (by omega) (by omega)⟩
set_option maxRecDepth 100000 in
theorem leftE_step (l : List CE) (left deep : Int) (hl : -1 ≤ left) (hl2 : left ≤ 1000000) (hd : -1 ≤ deep) (hd2 : deep ≤ 1000) (hlen : l.length ≤ maxLen) (hrec : 0 ≤ deep → ∀ x ∈ l, ∀ a : Int, -1 ≤ a → a ≤ 1000000 → APure Try.prog 84 [(.lst false (x.kids.map CE.cells)), .int .i64 a, .int .i64 (deep - 1)] (fun r => r = .int .i64 (leftE x.kids a (deep - 1)))) : APure Try.prog 84 [(.lst false (l.map CE.cells)), .int .i64 left, .int .i64 deep] (fun r => r = .int .i64 (leftE l left deep)) := by
 refine APure.of_body (n := 31) tok Try.func84 rfl rfl ?_
 refine asr ?_
 refine aa 6 ?_
 refine an ?_
 refine AGo.seq ?_
 refine asr ?_
 refine am 8 ?_
 refine aqb ?_
 refine an ?_
 refine AGo.split 9 rfl (fun hb1 => ?_) (fun hb1 => ?_)
 ·
  refine act ?_
  refine asr ?_
  refine aa 6 ?_
  refine an ?_
  refine AGo.ret ?_
  refine ⟨[_], ⟨rfl, trivial⟩, ?_, rfl⟩
  rw [leftE_neg hb1]; rfl
 ·
  refine acf ?_
  refine AGo.skip ?_
  refine AGo.seq ?_
  refine asr ?_
  refine aa 7 ?_
  refine an ?_
  refine AGo.block ?_
  refine AGo.loopD (γ := Nat × Int) 0 (fun q => ⟨31, (eput (eput (eput (eput eNew 0 (.lst false (l.map CE.cells))) 1 (.int .i64 q.2)) 2 (.int .i64 deep)) 7 (.int .i64 (q.1 : Int))), (hFrom 0)⟩) (fun q => CE.leftL (l.drop q.1) q.2 deep = leftE l left deep ∧ -1 ≤ q.2 ∧ q.2 ≤ left) (fun q => l.length - q.1) (0, left) (Sub.mk' z34q z13q) ⟨(leftE_pos hb1).symm, hl, Int.le_refl _⟩ (fun _ => fun b hb => hFrom_free hb) ?_
  intro q hF
  refine AGo.seq ?_
  refine asr ?_
  refine am 10 ?_
  refine am 11 ?_
  refine aq 12 (q_len tok rfl rfl rfl rfl rfl) ?_
  refine aqb ?_
  refine am 14 ?_
  refine AOps.split 14 rfl (fun hb2 => ?_) (fun hb2 => ?_)
  ·
   refine am 15 ?_
   refine aqb ?_
   refine apt ?_
   refine an ?_
   refine AGo.split 17 rfl (fun hb3 => ?_) (fun hb3 => ?_)
   ·
    refine act ?_
    have hql : q.1 < l.length := lt_of_idx hb2
    obtain ⟨x, hx⟩ := get_of_lt hql
    have hq0 : 0 ≤ q.2 := by simpa using hb3
    have h0 : 0 ≤ deep := by simpa using hb1
    refine AGo.skip ?_;refine AGo.seq ?_;refine AGo.block ?_;refine AGo.region ?_;refine am 20 ?_;refine am 21 ?_;refine aq 22 (q_index_lst tok rfl rfl rfl rfl rfl rfl (Int.natCast_nonneg _) (idxE hx) rfl) ?_;refine af 23 tok ?_;refine al 24 tok ?_;refine am 25 ?_;refine aq 26 (q_bin (r := .int .i64 (q.2 - 1)) rfl rfl rfl z29q) ?_;refine am 27 ?_;refine aq 28 (q_bin (r := .int .i64 (deep - 1)) rfl rfl rfl z29q) ?_;refine ax 29 (o_pure rfl Try.func84 (by kernel_rfl) rfl rfl rfl (hrec h0 x (List.mem_of_getElem? hx) (q.2 - 1) (by omega) (by omega))) ?_;refine aa 1 ?_;refine an ?_;refine AGo.region ?_;refine am 18 ?_;refine aq 19 (q_inc rfl rfl hql hlen) ?_;refine aa 7 ?_;refine an ?_;exact ⟨(q.1 + 1, leftE x.kids (q.2 - 1) (deep - 1)), Drop.mk' z22q z17q, ⟨(leftL_go hx hq0).symm.trans hF.1, (leftE_in1 x.kids (by omega)).1, by have := (leftE_in1 x.kids (deep := deep - 1) (show -1 ≤ q.2 - 1 by omega)).2; show leftE x.kids (q.2 - 1) (deep - 1) ≤ left; omega⟩, (by show l.length - (q.1 + 1) < l.length - q.1; omega)⟩
   ·
    refine acf ?_;refine AGo.exit ?_;refine asr ?_;refine am 30 ?_;refine aa 6 ?_;refine an ?_;refine AGo.ret ?_;refine ⟨[_], ⟨rfl, trivial⟩, ?_, rfl⟩
    have hend : CE.leftL (l.drop q.1) q.2 deep = q.2 := by first | exact leftL_neg (by simpa using hb3) deep | exact leftL_end (ge_of_idx hb2) q.2 deep
    rw [← hF.1, hend]; rfl
  ·
   iterate 2 refine ak _ ?_
   refine apf ?_
   refine an ?_
   refine acf ?_
   refine AGo.exit ?_
   refine asr ?_
   refine am 30 ?_
   refine aa 6 ?_
   refine an ?_
   refine AGo.ret ?_
   refine ⟨[_], ⟨rfl, trivial⟩, ?_, rfl⟩
   have hend : CE.leftL (l.drop q.1) q.2 deep = q.2 := by first | exact leftL_neg (by simpa using hb3) deep | exact leftL_end (ge_of_idx hb2) q.2 deep
   rw [← hF.1, hend]; rfl
theorem leftE_ok : ∀ (n : Nat) (l : List CE) (left deep : Int), deep < n → (∀ e ∈ l, e.Ok) → l.length * 64 ≤ reachBytes → -1 ≤ left → left ≤ 1000000 → -1 ≤ deep → deep ≤ 1000 → APure Try.prog 84 [(.lst false (l.map CE.cells)), .int .i64 left, .int .i64 deep] (fun r => r = .int .i64 (leftE l left deep))
  | 0, l, left, deep, hn, hk, hl, h1, h2, h3, h4 => leftE_step l left deep h1 h2 h3 h4 (len64 hl) fun h0 => absurd h0 (by omega)
  | n + 1, l, left, deep, hn, hk, hl, h1, h2, h3, h4 => leftE_step l left deep h1 h2 h3 h4 (len64 hl) fun h0 x hx a ha ha2 => leftE_ok n x.kids a (deep - 1) (by omega) (hk x hx).kidsOk.1 (hk x hx).kidsOk.2 ha ha2 (by omega) (by omega)
set_option maxRecDepth 100000 in
theorem leftS_step (l : List CS) (left deep : Int) (hl : -1 ≤ left) (hl2 : left ≤ 1000000) (hd : -1 ≤ deep) (hd2 : deep ≤ 1000) (hk : ∀ e ∈ l, e.Ok) (hlen : l.length ≤ maxLen) (hrec : 0 ≤ deep → ∀ x ∈ l, ∀ a : Int, -1 ≤ a → a ≤ 1000000 → APure Try.prog 61 [(.lst false (x.thn.map CS.cells)), .int .i64 a, .int .i64 (deep - 1)] (fun r => r = .int .i64 (leftS x.thn a (deep - 1))) ∧ APure Try.prog 61 [(.lst false (x.els.map CS.cells)), .int .i64 a, .int .i64 (deep - 1)] (fun r => r = .int .i64 (leftS x.els a (deep - 1)))) : APure Try.prog 61 [(.lst false (l.map CS.cells)), .int .i64 left, .int .i64 deep] (fun r => r = .int .i64 (leftS l left deep)) := by
 refine APure.of_body (n := 49) tok Try.func61 rfl rfl ?_
 refine asr ?_
 refine aa 6 ?_
 refine an ?_
 refine AGo.seq ?_
 refine asr ?_
 refine am 8 ?_
 refine aqb ?_
 refine an ?_
 refine AGo.split 9 rfl (fun hb1 => ?_) (fun hb1 => ?_)
 ·
  refine act ?_
  refine asr ?_
  refine aa 6 ?_
  refine an ?_
  refine AGo.ret ?_
  refine ⟨[_], ⟨rfl, trivial⟩, ?_, rfl⟩
  rw [leftS_neg hb1]; rfl
 ·
  refine acf ?_
  refine AGo.skip ?_
  refine AGo.seq ?_
  refine asr ?_
  refine aa 7 ?_
  refine an ?_
  refine AGo.block ?_
  refine AGo.loopD (γ := Nat × Int) 0 (fun q => ⟨49, (eput (eput (eput (eput eNew 0 (.lst false (l.map CS.cells))) 1 (.int .i64 q.2)) 2 (.int .i64 deep)) 7 (.int .i64 (q.1 : Int))), (hFrom 0)⟩) (fun q => CS.leftL (l.drop q.1) q.2 deep = leftS l left deep ∧ -1 ≤ q.2 ∧ q.2 ≤ left) (fun q => l.length - q.1) (0, left) (Sub.mk' z34q z13q) ⟨(leftS_pos hb1).symm, hl, Int.le_refl _⟩ (fun _ => fun b hb => hFrom_free hb) ?_
  intro q hF
  refine AGo.seq ?_
  refine asr ?_
  refine am 10 ?_
  refine am 11 ?_
  refine aq 12 (q_len tok rfl rfl rfl rfl rfl) ?_
  refine aqb ?_
  refine am 14 ?_
  refine AOps.split 14 rfl (fun hb2 => ?_) (fun hb2 => ?_)
  ·
   refine am 15 ?_
   refine aqb ?_
   refine apt ?_
   refine an ?_
   refine AGo.split 17 rfl (fun hb3 => ?_) (fun hb3 => ?_)
   ·
    refine act ?_
    have hql : q.1 < l.length := lt_of_idx hb2
    obtain ⟨x, hx⟩ := get_of_lt hql
    have hxm := List.mem_of_getElem? hx
    have hxk := hk x hxm
    have hq0 : 0 ≤ q.2 := by simpa using hb3
    have h0 : 0 ≤ deep := by simpa using hb1
    have hi1 := leftE_in1 x.es (deep := deep - 1) (show -1 ≤ q.2 - 1 by omega)
    have hi2 := leftS_in1 x.thn (deep := deep - 1) hi1.1
    have hi3 := leftS_in1 x.els (deep := deep - 1) hi2.1
    refine AGo.skip ?_;refine AGo.seq ?_;refine AGo.block ?_;refine asr ?_;refine am 20 ?_;refine am 21 ?_;refine aq 22 (q_index_lst tok rfl rfl rfl rfl rfl rfl (Int.natCast_nonneg _) (idxS hx) rfl) ?_;refine af 23 tok ?_;refine al 24 tok ?_;refine am 25 ?_;refine aq 26 (q_bin (r := .int .i64 (q.2 - 1)) rfl rfl rfl z29q) ?_;refine am 27 ?_;refine aq 28 (q_bin (r := .int .i64 (deep - 1)) rfl rfl rfl z29q) ?_;refine ax 29 (o_pure rfl Try.func84 (by kernel_rfl) rfl rfl rfl (leftE_ok (deep.toNat + 1) x.es (q.2 - 1) (deep - 1) (by omega) hxk.esOk.1 hxk.esOk.2 (by omega) (by omega) (by omega) (by omega))) ?_;refine aa 1 ?_;refine an ?_;refine asr ?_;refine am 30 ?_;refine am 31 ?_;refine aq 32 (q_index_lst tok rfl rfl rfl rfl rfl rfl (Int.natCast_nonneg _) (idxS hx) rfl) ?_;refine af 33 tok ?_;refine al 34 tok ?_;refine am 35 ?_;refine am 36 ?_;refine aq 37 (q_bin (r := .int .i64 (deep - 1)) rfl rfl rfl z29q) ?_
    refine ax 38 (o_pure rfl Try.func61 (by kernel_rfl) rfl rfl rfl ((hrec h0 x hxm _ hi1.1 (by have := hi1.2; omega)).1)) ?_;refine aa 1 ?_;refine an ?_;refine AGo.region ?_;refine am 39 ?_;refine am 40 ?_;refine aq 41 (q_index_lst tok rfl rfl rfl rfl rfl rfl (Int.natCast_nonneg _) (idxS hx) rfl) ?_;refine af 42 tok ?_;refine al 43 tok ?_;refine am 44 ?_;refine am 45 ?_;refine aq 46 (q_bin (r := .int .i64 (deep - 1)) rfl rfl rfl z29q) ?_;refine ax 47 (o_pure rfl Try.func61 (by kernel_rfl) rfl rfl rfl ((hrec h0 x hxm _ hi2.1 (by have := hi1.2; have := hi2.2; omega)).2)) ?_;refine aa 1 ?_;refine an ?_;refine AGo.region ?_;refine am 18 ?_;refine aq 19 (q_inc rfl rfl hql hlen) ?_;refine aa 7 ?_;refine an ?_;exact ⟨(q.1 + 1, leftS x.els (leftS x.thn (leftE x.es (q.2 - 1) (deep - 1)) (deep - 1)) (deep - 1)), Drop.mk' z22q z17q, ⟨(leftSL_go hx hq0).symm.trans hF.1, hi3.1, by have := hi1.2; have := hi2.2; have := hi3.2; show leftS x.els (leftS x.thn (leftE x.es (q.2 - 1) (deep - 1)) (deep - 1)) (deep - 1) ≤ left; omega⟩, (by show l.length - (q.1 + 1) < l.length - q.1; omega)⟩
   ·
    refine acf ?_;refine AGo.exit ?_;refine asr ?_;refine am 48 ?_;refine aa 6 ?_;refine an ?_;refine AGo.ret ?_;refine ⟨[_], ⟨rfl, trivial⟩, ?_, rfl⟩
    have hend : CS.leftL (l.drop q.1) q.2 deep = q.2 := by first | exact leftSL_neg (by simpa using hb3) deep | exact leftSL_end (ge_of_idx hb2) q.2 deep
    rw [← hF.1, hend]; rfl
  ·
   iterate 2 refine ak _ ?_
   refine apf ?_
   refine an ?_
   refine acf ?_
   refine AGo.exit ?_
   refine asr ?_
   refine am 48 ?_
   refine aa 6 ?_
   refine an ?_
   refine AGo.ret ?_
   refine ⟨[_], ⟨rfl, trivial⟩, ?_, rfl⟩
   have hend : CS.leftL (l.drop q.1) q.2 deep = q.2 := by first | exact leftSL_neg (by simpa using hb3) deep | exact leftSL_end (ge_of_idx hb2) q.2 deep
   rw [← hF.1, hend]; rfl
theorem leftS_ok : ∀ (n : Nat) (l : List CS) (left deep : Int), deep < n → (∀ e ∈ l, e.Ok) → l.length * 96 ≤ reachBytes → -1 ≤ left → left ≤ 1000000 → -1 ≤ deep → deep ≤ 1000 → APure Try.prog 61 [(.lst false (l.map CS.cells)), .int .i64 left, .int .i64 deep] (fun r => r = .int .i64 (leftS l left deep))
  | 0, l, left, deep, hn, hk, hl, h1, h2, h3, h4 => leftS_step l left deep h1 h2 h3 h4 hk (len96 hl) fun h0 => absurd h0 (by omega)
  | n + 1, l, left, deep, hn, hk, hl, h1, h2, h3, h4 => leftS_step l left deep h1 h2 h3 h4 hk (len96 hl) fun h0 x hx a ha ha2 => ⟨leftS_ok n x.thn a (deep - 1) (by omega) (hk x hx).thnOk.1 (hk x hx).thnOk.2 ha ha2 (by omega) (by omega), leftS_ok n x.els a (deep - 1) (by omega) (hk x hx).elsOk.1 (hk x hx).elsOk.2 ha ha2 (by omega) (by omega)⟩
set_option maxRecDepth 100000 in
theorem few19_ok (C : Core) (most : Int) (hC : C.Ok) (h1 : -1 ≤ most) (h2 : most ≤ 1000000) : APure Try.prog 42 [.agg C.cells, .int .i64 most] (fun r => r = .bool (C.few most)) := by
 refine APure.of_body (n := 29) tok Try.func42 rfl rfl ?_
 refine asr ?_
 refine ax 2 (o_box (sz := 2) 0 rfl rfl rfl rfl (Nat.zero_lt_succ _) rfl) ?_
 refine aa 4 ?_
 refine an ?_
 refine AGo.seq ?_
 refine asr ?_
 refine af 7 tok ?_
 refine al 8 tok ?_
 refine aq 9 (q_len tok rfl rfl rfl rfl rfl) ?_
 refine aqb ?_
 refine an ?_
 refine AGo.split 10 rfl (fun hb1 => ?_) (fun hb1 => ?_)
 ·
  refine act ?_
  refine asr ?_
  refine aa 4 ?_
  refine an ?_
  refine AGo.ret ?_
  refine ⟨[_], ⟨rfl, trivial⟩, ?_, rfl⟩
  show AV.bool _ = AV.bool _
  congr 1
  have hb : ¬ (C.funcs.length ≤ 100) := by have h := hb1; simp at h; omega
  unfold Core.few
  rw [decide_eq_false hb]; rfl
 ·
  refine acf ?_
  refine AGo.skip ?_
  refine asr ?_
  refine am 11 ?_
  refine aa 5 ?_
  refine an ?_
  refine AGo.seq ?_
  refine asr ?_
  refine aa 6 ?_
  refine an ?_
  refine AGo.block ?_
  refine AGo.loopD (γ := Nat) 1 (fun k => ⟨29, (eput (eput (eput eNew 2 (.ptr 0 1 0 0)) 5 (.int .i64 (leftF (C.funcs.take k) most))) 6 (.int .i64 (k : Int))), (hput (hFrom 1) 0 (.row false 2 [C.cells]))⟩) (fun k => k ≤ C.funcs.length) (fun k => C.funcs.length - k) 0 (Sub.mk' z34q z13q) (Nat.zero_le _) (fun _ => hput_free (fun b hb => hFrom_free hb) rfl) ?_
  intro k hk
  refine AGo.seq ?_
  refine asr ?_
  refine am 12 ?_
  refine af 13 tok ?_
  refine al 14 tok ?_
  refine aq 15 (q_len tok rfl rfl rfl rfl rfl) ?_
  refine aqb ?_
  refine an ?_
  refine AGo.split 16 rfl (fun hb2 => ?_) (fun hb2 => ?_)
  ·
   refine act ?_
   have hkl : k < C.funcs.length := lt_of_idx hb2
   obtain ⟨x, hx⟩ := get_of_lt hkl
   refine AGo.skip ?_
   refine AGo.seq ?_
   refine AGo.block ?_
   refine AGo.region ?_
   refine af 19 tok ?_
   refine al 20 tok ?_
   refine am 21 ?_
   refine aq 22 (q_index_lst tok rfl rfl rfl rfl rfl rfl (Int.natCast_nonneg _) (idx_map (by assumption)) rfl) ?_
   refine af 23 tok ?_
   refine al 24 tok ?_
   refine am 25 ?_
   refine ax 26 (o_pure rfl Try.func61 (by kernel_rfl) rfl rfl rfl (leftS_ok 41 x.body (leftF (C.funcs.take k) most) 40 (by omega) (hC.funcs x (List.mem_of_getElem? hx)).body (hC.funcs x (List.mem_of_getElem? hx)).len (leftF_in1 _ h1).1 (by have := (leftF_in1 (C.funcs.take k) h1).2; omega) (by omega) (by omega))) ?_
   refine aa 5 ?_
   refine an ?_
   refine AGo.region ?_
   refine am 17 ?_
   refine aq 18 (q_inc rfl rfl hkl (len56 hC.len)) ?_
   refine aa 6 ?_
   refine an ?_
   exact ⟨k+1, Drop.mk' (by repeat (first | exact EDrop.new _ _ | refine EDrop.put ?_ (by first | rfl | exact congrArg (fun n => some (AV.int .i64 n)) (leftF_take hx most).symm) z35q)) z17q, hkl, by omega⟩
  ·
   refine acf ?_
   have hke : k = C.funcs.length := Nat.le_antisymm hk (ge_of_idx hb2)
   refine AGo.exit ?_
   refine asr ?_
   refine am 27 ?_
   refine aqb ?_
   refine aa 4 ?_
   refine an ?_
   refine AGo.ret ?_
   refine ⟨[_], ⟨rfl, trivial⟩, ?_, rfl⟩
   show AV.bool _ = AV.bool _
   congr 1
   have hb : C.funcs.length ≤ 100 := by have h := hb1; simp at h; omega
   subst hke
   unfold Core.few
   rw [decide_eq_true hb, List.take_length]; rfl
set_option maxHeartbeats 1000000 in
set_option maxRecDepth 100000 in
theorem right19_ok (C : Core) (hC : C.Ok) : APure Try.prog 43 [.agg C.cells] (fun r => r = .bool C.right) := by
 refine APure.of_body (n := 96) tok Try.func43 rfl rfl ?_
 refine asr ?_
 refine ax 1 (o_box (sz := 2) 0 rfl rfl rfl rfl (Nat.zero_lt_succ _) rfl) ?_
 refine aa 2 ?_
 refine an ?_
 refine AGo.seq ?_
 refine asr ?_
 refine af 7 tok ?_
 refine al 8 tok ?_
 refine aqb ?_
 refine am 10 ?_
 refine AOps.split 10 rfl (fun hb1 => ?_) (fun hb1 => ?_)
 ·
  iterate 3 refine ak _ ?_
  refine apt ?_
  refine am 15 ?_
  iterate 4 refine ak _ ?_
  refine apt ?_
  refine am 21 ?_
  iterate 4 refine ak _ ?_
  refine apt ?_
  refine an ?_
  refine act ?_
  refine asr ?_
  refine aa 2 ?_
  refine an ?_
  refine AGo.ret ?_
  refine ⟨[_], ⟨rfl, trivial⟩, ?_, rfl⟩
  show AV.bool _ = AV.bool _
  congr 1
  refine (eq_false_of_ne_true fun h => ?_).symm
  have hr := right_core h
  have := hr.w0; have := hr.w1; have := hr.n0; have := hr.n1
  simp_all <;> omega
 ·
  refine af 11 tok ?_
  refine al 12 tok ?_
  refine aqb ?_
  refine apf ?_
  refine am 15 ?_
  refine AOps.split 15 rfl (fun hb2 => ?_) (fun hb2 => ?_)
  ·
   iterate 4 refine ak _ ?_
   refine apt ?_
   refine am 21 ?_
   iterate 4 refine ak _ ?_
   refine apt ?_
   refine an ?_
   refine act ?_
   refine asr ?_
   refine aa 2 ?_
   refine an ?_
   refine AGo.ret ?_
   refine ⟨[_], ⟨rfl, trivial⟩, ?_, rfl⟩
   show AV.bool _ = AV.bool _
   congr 1
   refine (eq_false_of_ne_true fun h => ?_).symm
   have hr := right_core h
   have := hr.w0; have := hr.w1; have := hr.n0; have := hr.n1
   simp_all <;> omega
  ·
   refine af 16 tok ?_
   refine al 17 tok ?_
   refine aq 18 (q_len tok rfl rfl rfl rfl rfl) ?_
   refine aqb ?_
   refine apf ?_
   refine am 21 ?_
   refine AOps.split 21 rfl (fun hb3 => ?_) (fun hb3 => ?_)
   ·
    iterate 4 refine ak _ ?_
    refine apt ?_;refine an ?_;refine act ?_;refine asr ?_;refine aa 2 ?_;refine an ?_;refine AGo.ret ?_;refine ⟨[_], ⟨rfl, trivial⟩, ?_, rfl⟩
    show AV.bool _ = AV.bool _
    congr 1
    refine (eq_false_of_ne_true fun h => ?_).symm
    have hr := right_core h
    have := hr.w0; have := hr.w1; have := hr.n0; have := hr.n1
    simp_all <;> omega
   ·
    refine af 22 tok ?_;refine al 23 tok ?_;refine aq 24 (q_len tok rfl rfl rfl rfl rfl) ?_;refine aqb ?_;refine apf ?_;refine an ?_;refine AGo.split 26 rfl (fun hb4 => ?_) (fun hb4 => ?_)
    ·
     refine act ?_;refine asr ?_;refine aa 2 ?_;refine an ?_;refine AGo.ret ?_;refine ⟨[_], ⟨rfl, trivial⟩, ?_, rfl⟩
     show AV.bool _ = AV.bool _
     congr 1
     refine (eq_false_of_ne_true fun h => ?_).symm
     have hr := right_core h
     have := hr.w0; have := hr.w1; have := hr.n0; have := hr.n1
     simp_all <;> omega
    ·
     refine acf ?_
     have hR : 0 ≤ C.words ∧ C.words ≤ 1000000 ∧ C.words ≤ 32768 ∧ 1 ≤ C.funcs.length ∧ C.funcs.length ≤ 64 := by simp_all <;> omega
     refine AGo.skip ?_;refine AGo.seq ?_;refine asr ?_;refine aa 3 ?_;refine an ?_;refine AGo.block ?_;refine AGo.loopD (γ := Nat) 1 (fun k => ⟨96, (eput (eput eNew 1 (.ptr 0 1 0 0)) 3 (.int .i64 (k : Int))), (hput (hFrom 1) 0 (.row false 2 [C.cells]))⟩) (fun k => (C.funcs.take k).all (fun g => g.fits C) = true) (fun k => C.funcs.length - k) 0 (Sub.mk' z34q z13q) rfl (fun _ => hput_free (fun b hb => hFrom_free hb) rfl) ?_
     intro k hk
     refine AGo.seq ?_;refine asr ?_;refine am 27 ?_;refine af 28 tok ?_;refine al 29 tok ?_;refine aq 30 (q_len tok rfl rfl rfl rfl rfl) ?_;refine aqb ?_;refine an ?_;refine AGo.split 31 rfl (fun hb5 => ?_) (fun hb5 => ?_)
     ·
      refine act ?_
      have hkl : k < C.funcs.length := lt_of_idx hb5
      obtain ⟨x, hx⟩ := get_of_lt hkl
      have hxm := List.mem_of_getElem? hx
      refine AGo.skip ?_;refine AGo.seq ?_;refine AGo.block ?_;refine asr ?_;refine af 34 tok ?_;refine al 35 tok ?_;refine am 36 ?_;refine aq 37 (q_index_lst tok rfl rfl rfl rfl rfl rfl (Int.natCast_nonneg _) (idx_map hx) rfl) ?_;refine al 38 tok ?_;refine ax 4 (o_alloc tok 1 rfl rfl rfl rfl (Nat.zero_lt_succ _) rfl) ?_;refine AOps.w rfl rfl (o_store tok rfl rfl rfl rfl rfl rfl rfl rfl rfl (by decide) rfl z40q) ?_;refine an ?_;refine AGo.seq ?_;refine AGo.join (γ := Bool) (fun c => ⟨96, (eput (eput (eput (eput eNew 1 (.ptr 0 1 0 0)) 3 (.int .i64 (k : Int))) 4 (.ptr 1 1 0 0)) 62 (.bool c)), (hput (hput (hFrom 2) 0 (.row false 2 [C.cells])) 1 (.row false 5 [x.cells]))⟩) (fun c => c = !(x.fits C)) ?_ ?_
      ·
       refine AGo.region ?_;refine af 39 tok ?_;refine al 40 tok ?_;refine aqb ?_;refine am 42 ?_;refine AOps.split 42 rfl (fun hb6 => ?_) (fun hb6 => ?_)
       ·
        iterate 3 refine ak _ ?_
        refine apt ?_;refine am 47 ?_
        iterate 5 refine ak _ ?_
        refine apt ?_;refine am 54 ?_
        iterate 7 refine ak _ ?_
        refine apt ?_;refine an ?_;exact ⟨_, Sub.mk' z34q z13q, z27q⟩
       ·
        refine af 43 tok ?_;refine al 44 tok ?_;refine aqb ?_;refine apf ?_;refine am 47 ?_;refine AOps.split 47 rfl (fun hb7 => ?_) (fun hb7 => ?_)
        ·
         iterate 5 refine ak _ ?_
         refine apt ?_;refine am 54 ?_
         iterate 7 refine ak _ ?_
         refine apt ?_;refine an ?_;exact ⟨_, Sub.mk' z34q z13q, z27q⟩
        ·
         refine af 48 tok ?_;refine al 49 tok ?_;refine af 50 tok ?_;refine al 51 tok ?_;refine aqb ?_;refine apf ?_;refine am 54 ?_;refine AOps.split 54 rfl (fun hb8 => ?_) (fun hb8 => ?_)
         ·
          iterate 7 refine ak _ ?_
          refine apt ?_;refine an ?_;exact ⟨_, Sub.mk' z34q z13q, z27q⟩
         ·
          refine al 55 tok ?_;refine af 56 tok ?_;refine al 57 tok ?_;refine af 58 tok ?_;refine al 59 tok ?_;refine ax 60 (o_pure rfl Try.func62 (by kernel_rfl) rfl rfl rfl (within19_ok C _ _ hR.1 hR.2.1)) ?_;refine aq 61 (q_not rfl rfl) ?_;refine apf ?_;refine an ?_;exact ⟨_, Sub.mk' z34q z13q, z27q⟩
      intro c hc
      refine AGo.split 62 rfl (fun hb9 => ?_) (fun hb9 => ?_)
      ·
       refine act ?_
       have hbad : x.fits C = false := by rw [hb9] at hc; simpa using hc.symm
       refine asr ?_;refine aa 2 ?_;refine an ?_;refine AGo.ret ?_;refine ⟨[_], ⟨rfl, trivial⟩, ?_, rfl⟩
       show AV.bool _ = AV.bool _
       congr 1
       refine (eq_false_of_ne_true fun h => ?_).symm
       unfold Core.right at h
       simp only [Bool.and_eq_true] at h
       rw [all_bad hx hbad] at h
       exact absurd h.2.2.2.2.1 (by decide)
      ·
       refine acf ?_
       have hfit : x.fits C = true := by rw [hb9] at hc; simpa using hc.symm
       refine AGo.skip ?_;refine AGo.region ?_;refine am 32 ?_;refine aq 33 (q_inc rfl rfl hkl (len56 hC.len)) ?_;refine aa 3 ?_;refine an ?_;exact ⟨k+1, Drop.mk' z22q z17q, all_succ hx hk hfit, by omega⟩
     ·
      refine acf ?_
      have hall1 := all_end hk (ge_of_idx hb5)
      refine AGo.exit ?_;refine AGo.seq ?_;refine asr ?_;refine aa 5 ?_;refine an ?_;refine AGo.block ?_;refine AGo.loopD (γ := Nat) 1 (fun k => ⟨96, (eput (eput eNew 1 (.ptr 0 1 0 0)) 5 (.int .i64 (k : Int))), (hput (hFrom 1) 0 (.row false 2 [C.cells]))⟩) (fun k => (C.funcs.zipIdx.take k).all (fun p => CS.rightL C (p.2 : Int) p.1.word p.1.body 1) = true) (fun k => C.funcs.length - k) 0 (Sub.mk' z34q z13q) rfl (fun _ => hput_free (fun b hb => hFrom_free hb) rfl) ?_
      intro k hk
      refine AGo.seq ?_;refine asr ?_;refine am 63 ?_;refine af 64 tok ?_;refine al 65 tok ?_;refine aq 66 (q_len tok rfl rfl rfl rfl rfl) ?_;refine aqb ?_;refine an ?_;refine AGo.split 67 rfl (fun hb10 => ?_) (fun hb10 => ?_)
      ·
       refine act ?_
       have hkl : k < C.funcs.length := lt_of_idx hb10
       obtain ⟨x, hx⟩ := get_of_lt hkl
       have hxm := List.mem_of_getElem? hx
       refine AGo.skip ?_;refine AGo.seq ?_;refine AGo.block ?_;refine AGo.seq ?_;refine AGo.draw mix ?_;refine dl 70 tok ?_;refine dm 71 ?_;refine df 72 tok ?_;refine dl 73 tok ?_;refine dm 74 ?_;refine dq 75 (q_index_lst tok rfl rfl rfl rfl rfl rfl (Int.natCast_nonneg _) (idx_map hx) rfl) ?_;refine df 76 tok ?_;refine dl 77 tok ?_;refine dx 78 (o_pure rfl Try.func63 (by kernel_rfl) rfl rfl rfl (rightS_ok C (k : Int) hR.1 hR.2.1 (fun g g0 g1 => get_of_lt (by omega)) (Int.natCast_nonneg _) x (by rw [Int.toNat_natCast]; exact hx) 100 x.body 1 (by omega) (hC.funcs x hxm).body (hC.funcs x hxm).len (by omega) (by omega))) ?_;refine dq 79 (q_not rfl rfl) ?_;refine DOps.nil (by kernel_rfl) ?_;refine AGo.split 79 rfl (fun hb11 => ?_) (fun hb11 => ?_)
       ·
        refine act ?_
        have hno : CS.rightL C (k : Int) x.word x.body 1 = false := by have h := hb11; simpa using h
        refine asr ?_;refine aa 2 ?_;refine an ?_;refine AGo.ret ?_;refine ⟨[_], ⟨rfl, trivial⟩, ?_, rfl⟩
        show AV.bool _ = AV.bool _
        congr 1
        refine (eq_false_of_ne_true fun h => ?_).symm
        unfold Core.right at h
        simp only [Bool.and_eq_true] at h
        rw [all_bad (zipIdx_get hx) hno] at h
        exact absurd h.2.2.2.2.2.1 (by decide)
       ·
        refine acf ?_
        have hone : CS.rightL C (k : Int) x.word x.body 1 = true := by have h := hb11; simpa using h
        refine AGo.skip ?_;refine AGo.region ?_;refine am 68 ?_;refine aq 69 (q_inc rfl rfl hkl (len56 hC.len)) ?_;refine aa 5 ?_;refine an ?_;exact ⟨k+1, Drop.mk' z22q z17q, all_succ (zipIdx_get hx) hk hone, by omega⟩
      ·
       refine acf ?_
       have hall2 := all_end hk (by rw [List.length_zipIdx]; exact ge_of_idx hb10)
       obtain ⟨y, hlast⟩ := get_of_lt (l := C.funcs) (k := C.funcs.length - 1) (by omega)
       refine AGo.exit ?_;refine asr ?_;refine af 80 tok ?_;refine al 81 tok ?_;refine af 82 tok ?_;refine al 83 tok ?_;refine aq 84 (q_len tok rfl rfl rfl rfl rfl) ?_;refine aq 85 (q_bin (r := .int .i64 ((C.funcs.length : Int) - 1)) rfl rfl rfl (by simp only [evalBin, evalInt, isShift, cond_false, if_true]; rw [List.length_map, wrap_i64 (by omega) (by omega)])) ?_;refine aq 86 (q_index_lst tok rfl rfl rfl rfl rfl rfl (by omega) (idx_map2 (by rw [show ((C.funcs.length : Int) - 1).toNat = C.funcs.length - 1 by omega]; exact hlast)) rfl) ?_
       refine al 87 tok ?_;refine ax 6 (o_alloc tok 1 rfl rfl rfl rfl (Nat.zero_lt_succ _) rfl) ?_;refine AOps.w rfl rfl (o_store tok rfl rfl rfl rfl rfl rfl rfl rfl rfl (by decide) rfl z40q) ?_;refine an ?_;refine asr ?_;refine af 88 tok ?_;refine al 89 tok ?_;refine aqb ?_;refine am 91 ?_;refine AOps.split 91 rfl (fun hb12 => ?_) (fun hb12 => ?_)
       ·
        refine af 92 tok ?_;refine al 93 tok ?_;refine aq 94 (q_not rfl rfl) ?_;refine apt ?_;refine aa 2 ?_;refine an ?_;refine AGo.ret ?_;refine ⟨[_], ⟨rfl, trivial⟩, ?_, rfl⟩
        show AV.bool _ = AV.bool _
        congr 1
        unfold Core.right
        rw [hall1, hall2, hlast, decide_eq_true hR.1, decide_eq_true hR.2.2.1, decide_eq_true hR.2.2.2.1, decide_eq_true hR.2.2.2.2]
        simp_all
       ·
        iterate 3 refine ak _ ?_
        refine apf ?_;refine aa 2 ?_;refine an ?_;refine AGo.ret ?_;refine ⟨[_], ⟨rfl, trivial⟩, ?_, rfl⟩
        show AV.bool _ = AV.bool _
        congr 1
        unfold Core.right
        rw [hall1, hall2, hlast, decide_eq_true hR.1, decide_eq_true hR.2.2.1, decide_eq_true hR.2.2.2.1, decide_eq_true hR.2.2.2.2]
        simp_all
set_option maxRecDepth 100000 in
theorem fair19_ok (C : Core) (most : Int) (hC : C.Ok) (h1 : -1 ≤ most) (h2 : most ≤ 1000000) : APure Try.prog 27 [.agg C.cells, .int .i64 most] (fun r => r = .bool (C.fair most)) := by
 refine APure.of_body (n := 17) tok Try.func27 rfl rfl ?_
 refine asr ?_
 refine ax 2 (o_box (sz := 2) 0 rfl rfl rfl rfl (Nat.zero_lt_succ _) rfl) ?_
 refine aa 4 ?_
 refine an ?_
 refine asr ?_
 refine al 5 tok ?_
 refine am 6 ?_
 refine ax 7 (o_pure rfl Try.func42 (by kernel_rfl) rfl rfl rfl (few19_ok C most hC h1 h2)) ?_
 refine am 8 ?_
 refine AOps.split 8 rfl (fun hb1 => ?_) (fun hb1 => ?_)
 ·
  refine af 9 tok ?_
  refine al 10 tok ?_
  refine aqb ?_
  refine apt ?_
  refine am 13 ?_
  refine AOps.split 13 rfl (fun hb2 => ?_) (fun hb2 => ?_)
  ·
   refine al 14 tok ?_
   refine ax 15 (o_pure rfl Try.func43 (by kernel_rfl) rfl rfl rfl (right19_ok C hC)) ?_
   refine apt ?_
   refine aa 4 ?_
   refine an ?_
   refine AGo.ret ?_
   refine ⟨[_], ⟨rfl, trivial⟩, ?_, rfl⟩
   show AV.bool _ = AV.bool _
   congr 1
   unfold Core.fair
   first | (simp_all; done) | (simp_all; intro h_; omega)
  ·
   iterate 2 refine ak _ ?_
   refine apf ?_
   refine aa 4 ?_
   refine an ?_
   refine AGo.ret ?_
   refine ⟨[_], ⟨rfl, trivial⟩, ?_, rfl⟩
   show AV.bool _ = AV.bool _
   congr 1
   unfold Core.fair
   first | (simp_all; done) | (simp_all; intro h_; omega)
 ·
  iterate 3 refine ak _ ?_
  refine apf ?_
  refine am 13 ?_
  iterate 2 refine ak _ ?_
  refine apf ?_
  refine aa 4 ?_
  refine an ?_
  refine AGo.ret ?_
  refine ⟨[_], ⟨rfl, trivial⟩, ?_, rfl⟩
  show AV.bool _ = AV.bool _
  congr 1
  unfold Core.fair
  first | (simp_all; done) | (simp_all; intro h_; omega)
set_option maxRecDepth 100000 in
theorem bits_ok0 (a : Nat) (ha : a < 4294967296) : ACall Try.prog 105 [.int .u32 (a : Int)] (hput hNew 0 .free) (fun r h' => r = .ref 0 32 0 32 ∧ HSub (hput hNone 0 (.row true 1 (natCells (bitsN a 32)))) h') := by
 refine ACall.of_body (n := 18) tok Try.func105 rfl rfl ?_
 refine asr ?_
 refine aa 2 ?_
 refine an ?_
 refine asr ?_
 refine aa 3 ?_
 refine an ?_
 refine AGo.seq ?_
 refine AGo.seq ?_
 refine AGo.ghost (.dry 3 0 1 true rfl rfl rfl (by decide)) ?_
 refine AGo.region ?_
 refine aa 4 ?_
 refine an ?_
 refine AGo.block ?_
 refine AGo.loopI (γ := Nat) (fun k => ⟨18, (eput (eput (eput eNew 0 (.int .u32 ((a / 2 ^ k : Nat) : Int))) 3 (.ref 0 k 0 k)) 4 (.int .i64 (k : Int))), (hput hNone 0 (.row true 1 (natCells (bitsN a k))))⟩) (fun k => k ≤ 32) (fun k => 32 - k) 0 (Sub.mk' (by repeat (first | exact ESub.new _ | refine ESub.put ?_ (by first | rfl | exact congrArg (fun (n : Nat) => some (AV.int .u32 (n : Int))) (by simp)))) z13q) (Nat.zero_le _) ?_
 intro k hk
 refine AGo.seq ?_
 refine asr ?_
 refine am 5 ?_
 refine aqb ?_
 refine an ?_
 refine AGo.split 6 rfl (fun hb1 => ?_) (fun hb1 => ?_)
 ·
  refine act ?_
  have hkl : k < 32 := by have h := hb1; simp at h; omega
  have hle : a / 2 ^ k ≤ a := Nat.div_le_self _ _
  refine AGo.skip ?_
  refine AGo.seq ?_
  refine AGo.block ?_
  refine asr ?_
  refine am 9 ?_
  refine am 10 ?_
  refine aq 11 (q_bin (r := .int .u32 ((a / 2 ^ k % 2 : Nat) : Int)) rfl rfl rfl (ebin_rem (a := a / 2 ^ k) (b := 2) (by decide))) ?_
  refine aq 12 (q_convSame tok rfl rfl rfl rfl rfl (wrapN_i64 (by omega))) ?_
  refine ax 13 (o_lit' tok rfl rfl rfl rfl rfl rfl (by decide) rfl rfl rfl rfl rfl rfl) ?_
  refine ax 14 (o_append tok (n := k) (m := 1) rfl rfl rfl rfl rfl rfl rfl rfl rfl (by simp [natCells_len, bitsN_length]) rfl rfl (Nat.zero_lt_succ _) (.lst _ _) z41q (fun _ cs h => by simp [partVals] at h; subst h; rfl) rfl (by simp [natCells_len, bitsN_length, partVals]; show _ * 8 ≤ _; omega) (by simp [natCells_len, bitsN_length, partVals]; simp only [maxLen]; omega)) ?_
  refine aa 3 ?_
  refine an ?_
  refine AGo.region ?_
  refine am 15 ?_
  refine aq 16 (q_bin (r := .int .u32 ((a / 2 ^ k / 2 : Nat) : Int)) rfl rfl rfl (ebin_quo (a := a / 2 ^ k) (b := 2) (by decide) (wrapN_u32 (by omega)))) ?_
  refine aa 0 ?_
  refine an ?_
  refine AGo.region ?_
  refine am 7 ?_
  refine aq 8 (q_inc rfl rfl hkl (show 32 ≤ maxLen by decide)) ?_
  refine aa 4 ?_
  refine an ?_
  exact ⟨k+1, Sub.mk' (by repeat (first | exact ESub.new _ | refine ESub.put ?_ (by first | rfl | exact congrArg (fun (n : Nat) => some (AV.int .u32 (n : Int))) (by rw [Nat.div_div_eq_div_mul, Nat.pow_succ])))) z5q, hkl, by omega⟩
 ·
  refine acf ?_
  have hge : ¬ k < 32 := by have h := hb1; simp at h; omega
  refine AGo.exit ?_
  refine AGo.seq ?_
  obtain rfl : k = 32 := by omega
  refine AGo.region ?_
  refine am 17 ?_
  refine aa 2 ?_
  refine an ?_
  refine AGo.ret ?_
  refine ⟨[_], ⟨rfl, trivial⟩, rfl, HSub.put (HSub.none _) rfl⟩
set_option maxRecDepth 100000 in
theorem bits_ok1 (a : Nat) (ha : a < 4294967296) : ACall Try.prog 105 [.int .u32 (a : Int)] (hput hNew 1 .free) (fun r h' => r = .ref 1 32 0 32 ∧ HSub (hput hNone 1 (.row true 1 (natCells (bitsN a 32)))) h') := by
 refine ACall.of_body (n := 18) tok Try.func105 rfl rfl ?_
 refine asr ?_
 refine aa 2 ?_
 refine an ?_
 refine asr ?_
 refine aa 3 ?_
 refine an ?_
 refine AGo.seq ?_
 refine AGo.seq ?_
 refine AGo.ghost (.dry 3 1 1 true rfl rfl rfl (by decide)) ?_
 refine AGo.region ?_
 refine aa 4 ?_
 refine an ?_
 refine AGo.block ?_
 refine AGo.loopI (γ := Nat) (fun k => ⟨18, (eput (eput (eput eNew 0 (.int .u32 ((a / 2 ^ k : Nat) : Int))) 3 (.ref 1 k 0 k)) 4 (.int .i64 (k : Int))), (hput hNone 1 (.row true 1 (natCells (bitsN a k))))⟩) (fun k => k ≤ 32) (fun k => 32 - k) 0 (Sub.mk' (by repeat (first | exact ESub.new _ | refine ESub.put ?_ (by first | rfl | exact congrArg (fun (n : Nat) => some (AV.int .u32 (n : Int))) (by simp)))) z13q) (Nat.zero_le _) ?_
 intro k hk
 refine AGo.seq ?_
 refine asr ?_
 refine am 5 ?_
 refine aqb ?_
 refine an ?_
 refine AGo.split 6 rfl (fun hb1 => ?_) (fun hb1 => ?_)
 ·
  refine act ?_
  have hkl : k < 32 := by have h := hb1; simp at h; omega
  have hle : a / 2 ^ k ≤ a := Nat.div_le_self _ _
  refine AGo.skip ?_
  refine AGo.seq ?_
  refine AGo.block ?_
  refine asr ?_
  refine am 9 ?_
  refine am 10 ?_
  refine aq 11 (q_bin (r := .int .u32 ((a / 2 ^ k % 2 : Nat) : Int)) rfl rfl rfl (ebin_rem (a := a / 2 ^ k) (b := 2) (by decide))) ?_
  refine aq 12 (q_convSame tok rfl rfl rfl rfl rfl (wrapN_i64 (by omega))) ?_
  refine ax 13 (o_lit' tok rfl rfl rfl rfl rfl rfl (by decide) rfl rfl rfl rfl rfl rfl) ?_
  refine ax 14 (o_append tok (n := k) (m := 1) rfl rfl rfl rfl rfl rfl rfl rfl rfl (by simp [natCells_len, bitsN_length]) rfl rfl (Nat.zero_lt_succ _) (.lst _ _) z41q (fun _ cs h => by simp [partVals] at h; subst h; rfl) rfl (by simp [natCells_len, bitsN_length, partVals]; show _ * 8 ≤ _; omega) (by simp [natCells_len, bitsN_length, partVals]; simp only [maxLen]; omega)) ?_
  refine aa 3 ?_
  refine an ?_
  refine AGo.region ?_
  refine am 15 ?_
  refine aq 16 (q_bin (r := .int .u32 ((a / 2 ^ k / 2 : Nat) : Int)) rfl rfl rfl (ebin_quo (a := a / 2 ^ k) (b := 2) (by decide) (wrapN_u32 (by omega)))) ?_
  refine aa 0 ?_
  refine an ?_
  refine AGo.region ?_
  refine am 7 ?_
  refine aq 8 (q_inc rfl rfl hkl (show 32 ≤ maxLen by decide)) ?_
  refine aa 4 ?_
  refine an ?_
  exact ⟨k+1, Sub.mk' (by repeat (first | exact ESub.new _ | refine ESub.put ?_ (by first | rfl | exact congrArg (fun (n : Nat) => some (AV.int .u32 (n : Int))) (by rw [Nat.div_div_eq_div_mul, Nat.pow_succ])))) z5q, hkl, by omega⟩
 ·
  refine acf ?_
  have hge : ¬ k < 32 := by have h := hb1; simp at h; omega
  refine AGo.exit ?_
  refine AGo.seq ?_
  obtain rfl : k = 32 := by omega
  refine AGo.region ?_
  refine am 17 ?_
  refine aa 2 ?_
  refine an ?_
  refine AGo.ret ?_
  refine ⟨[_], ⟨rfl, trivial⟩, rfl, HSub.put (HSub.none _) rfl⟩
set_option maxRecDepth 100000 in
theorem bitsOf_ok (l : List Nat) (hl : l.length = 32) (hb : ∀ b ∈ l, b < 2) : APure Try.prog 106 [.lst false (natCells l)] (fun r => r = .int .u32 (valB l : Int)) := by
 refine APure.of_body (n := 23) tok Try.func106 rfl rfl ?_
 refine asr ?_
 refine aa 2 ?_
 refine an ?_
 refine asr ?_
 refine aa 3 ?_
 refine an ?_
 refine AGo.seq ?_
 refine asr ?_
 refine am 5 ?_
 refine aq 6 (q_len tok rfl rfl rfl rfl rfl) ?_
 refine aq 7 (q_bin (r := .int .i64 (31 : Int)) rfl rfl rfl (by rw [natCells_len, hl]; rfl)) ?_
 refine aa 4 ?_
 refine an ?_
 refine AGo.block ?_
 refine AGo.loopI (γ := Nat) (fun k => ⟨23, (eput (eput (eput eNew 0 (.lst false (natCells l))) 3 (.int .u64 ((valB (l.drop k) : Nat) : Int))) 4 (.int .i64 ((k : Int) - 1))), hNone⟩) (fun k => k ≤ 32) (fun k => k) 32 (Sub.mk' (by repeat (first | exact ESub.new _ | refine ESub.put ?_ (by first | rfl | exact congrArg (fun (n : Nat) => some (AV.int .u64 (n : Int))) (by rw [List.drop_eq_nil_of_le (by omega)]; rfl)))) z13q) (Nat.le_refl _) ?_
 intro k hk
 refine AGo.seq ?_
 refine asr ?_
 refine am 8 ?_
 refine aqb ?_
 refine an ?_
 refine AGo.split 9 rfl (fun hb1 => ?_) (fun hb1 => ?_)
 ·
  refine act ?_
  obtain ⟨m, rfl⟩ : ∃ m, k = m + 1 := ⟨k - 1, by have h := hb1; simp at h; omega⟩
  obtain ⟨b, hx⟩ := get_of_lt (l := l) (k := m) (by omega)
  have hb2 := hb b (List.mem_of_getElem? hx)
  have hv := valB_drop_lt hl hb (m + 1)
  have hv2 := valB_drop hx
  refine AGo.skip ?_
  refine AGo.seq ?_
  refine AGo.block ?_
  refine AGo.region ?_
  refine am 12 ?_
  refine aq 13 (q_bin (r := .int .u64 ((2 * valB (l.drop (m + 1)) : Nat) : Int)) rfl rfl rfl (ebin_mul (a := 2) (b := valB (l.drop (m + 1))) (wrapN_u64 (by omega)))) ?_
  refine am 14 ?_
  refine am 15 ?_
  refine aq 16 (q_index_lst tok rfl rfl rfl rfl rfl rfl (by omega) (cs := [.int .i64 (b : Int)]) (by rw [show (((m + 1 : Nat) : Int) - 1).toNat = m by omega]; show (natCells l)[m]? = _; rw [natCells, List.getElem?_map, hx]; rfl) rfl) ?_
  refine al 17 tok ?_
  refine aq 18 (q_convSame tok rfl rfl rfl rfl rfl (wrapN_u64 (by omega))) ?_
  refine aq 19 (q_bin (r := .int .u64 ((2 * valB (l.drop (m + 1)) + b : Nat) : Int)) rfl rfl rfl (ebin_add (wrapN_u64 (by omega)))) ?_
  refine aa 3 ?_
  refine an ?_
  refine AGo.region ?_
  refine am 10 ?_
  refine aq 11 (q_bin (r := .int .i64 ((m : Int) - 1)) rfl rfl rfl z26q) ?_
  refine aa 4 ?_
  refine an ?_
  exact ⟨m, Sub.mk' (by repeat (first | exact ESub.new _ | refine ESub.put ?_ (by first | rfl | exact congrArg (fun (n : Nat) => some (AV.int .u64 (n : Int))) (by omega)))) z13q, (by omega), by omega⟩
 ·
  refine acf ?_
  obtain rfl : k = 0 := by have h := hb1; simp at h; omega
  refine AGo.exit ?_
  refine asr ?_
  refine am 20 ?_
  refine aq 21 (q_bin (r := .int .u64 ((valB (l.drop 0) % 4294967296 : Nat) : Int)) rfl rfl rfl (ebin_rem (a := valB (l.drop 0)) (b := 4294967296) (by decide))) ?_
  refine aq 22 (q_convSame tok rfl rfl rfl rfl rfl (wrapN_u32 (Nat.mod_lt _ (by decide)))) ?_
  refine aa 2 ?_
  refine an ?_
  refine AGo.ret ?_
  refine ⟨[_], ⟨rfl, trivial⟩, ?_, rfl⟩
  show AV.int .u32 _ = _
  rw [Nat.mod_eq_of_lt (valB_drop_lt hl hb 0), List.drop_zero]
set_option maxRecDepth 100000 in
theorem both_ok (op : Int) (a b : Nat) (ha : a < 4294967296) (hb : b < 4294967296) : APure Try.prog 95 [.int .i64 op, .int .u32 (a : Int), .int .u32 (b : Int)] (fun r => r = .int .u32 (valB (bothN op a b) : Int)) := by
 refine APure.of_body (n := 50) tok Try.func95 rfl rfl ?_
 refine asr ?_
 refine aa 6 ?_
 refine an ?_
 refine asr ?_
 refine am 11 ?_
 refine ax 12 (o_call (hc := hput hNew 0 .free) (hw := hput hNone 0 (.row true 1 (natCells (bitsN a 32)))) [0] [(0, (.row true 1 (natCells (bitsN a 32))))] rfl Try.func105 (by kernel_rfl) rfl rfl rfl ⟨⟨_, rfl, rfl⟩, trivial⟩ rfl (hres_cons rfl (hres_nil _)) ⟨⟨_, rfl, rfl, rfl⟩, trivial⟩ rfl (bits_ok0 a ha)) ?_
 refine am 13 ?_
 refine ax 14 (o_call (hc := hput hNew 1 .free) (hw := hput hNone 1 (.row true 1 (natCells (bitsN b 32)))) [1] [(1, (.row true 1 (natCells (bitsN b 32))))] rfl Try.func105 (by kernel_rfl) rfl rfl rfl ⟨⟨_, rfl, rfl⟩, trivial⟩ rfl (hres_cons rfl (hres_nil _)) ⟨⟨_, rfl, rfl, rfl⟩, trivial⟩ rfl (bits_ok1 b hb)) ?_
 refine aa 7 ?_
 refine aa 8 ?_
 refine an ?_
 refine AGo.seq ?_
 refine asr ?_
 refine aa 9 ?_
 refine an ?_
 refine AGo.block ?_
 refine AGo.loopI (γ := Nat) (fun k => ⟨50, (eput (eput (eput (eput eNew 0 (.int .i64 op)) 7 (.ref 0 32 0 32)) 8 (.ref 1 32 0 32)) 9 (.int .i64 (k : Int))), (hput (hput hNone 0 (.row true 1 (natCells (mixB op a b k)))) 1 (.row true 1 (natCells (bitsN b 32))))⟩) (fun k => k ≤ 32) (fun k => 32 - k) 0 (Sub.mk' z34q (by repeat (first | exact HSub.refl _ | exact HSub.none _ | exact HSub.from_new _ | exact HSub.from_from (by first | decide | omega | (dsimp only; omega)) | refine HSub.put ?_ (by first | rfl | exact congrArg (fun l => some (AObj.row true 1 (natCells l))) (mixB_zero op a b).symm) | refine HSub.from_put ?_ (by first | decide | omega | (dsimp only; omega)) | refine HSub.from_rm ?_ (by decide)))) (Nat.zero_le _) ?_
 intro k hk
 refine AGo.seq ?_
 refine asr ?_
 refine am 15 ?_
 refine aqb ?_
 refine an ?_
 refine AGo.split 16 rfl (fun hb1 => ?_) (fun hb1 => ?_)
 ·
  refine act ?_
  have hkl : k < 32 := by have h := hb1; simp at h; omega
  refine AGo.skip ?_
  refine AGo.seq ?_
  refine AGo.block ?_
  refine AGo.seq ?_
  refine AGo.draw mix ?_
  refine dm 19 ?_
  refine dm 20 ?_
  refine dq 21 (q_index_ref tok rfl rfl rfl rfl rfl rfl rfl (by simp [natCells_len, mixB_length (Nat.le_of_lt hkl), bitsN_length]) rfl (Int.natCast_nonneg _) (by omega)) ?_
  refine dq 22 (q_load tok rfl rfl rfl (.ptr _ _ _ _ _ _ _ _ rfl z38q (natCells_get (mixB_get hkl))) rfl) ?_
  refine dm 23 ?_
  refine dm 24 ?_
  refine dq 25 (q_index_ref tok rfl rfl rfl rfl rfl rfl rfl (by simp [natCells_len, mixB_length (Nat.le_of_lt hkl), bitsN_length]) rfl (Int.natCast_nonneg _) (by omega)) ?_
  refine dq 26 (q_load tok rfl rfl rfl (.ptr _ _ _ _ _ _ _ _ rfl (by simp [natCells_len, bitsN_length]) (natCells_get (bitsN_get hkl))) rfl) ?_
  refine dq 27 (q_bin (r := .int .i64 ((a / 2 ^ k % 2 + b / 2 ^ k % 2 : Nat) : Int)) rfl rfl rfl (ebin_add (wrapN_i64 (by omega)))) ?_
  refine da 10 ?_
  refine DOps.nil (by kernel_rfl) ?_
  refine asr ?_
  refine am 28 ?_
  refine am 29 ?_
  refine aq 30 (q_index_ref tok rfl rfl rfl rfl rfl rfl rfl (by simp [natCells_len, mixB_length (Nat.le_of_lt hkl), bitsN_length]) rfl (Int.natCast_nonneg _) (by omega)) ?_
  refine AOps.w rfl rfl (o_store tok rfl rfl rfl rfl rfl rfl z38q (natCells_get (mixB_get hkl)) rfl (by decide) rfl z40q) ?_
  refine an ?_
  refine asr ?_
  refine am 31 ?_
  refine aqb ?_
  refine am 33 ?_
  refine AOps.split 33 rfl (fun hb2 => ?_) (fun hb2 => ?_)
  ·
   refine am 34 ?_
   refine aqb ?_
   refine apt ?_
   refine am 37 ?_
   refine AOps.split 37 rfl (fun hb3 => ?_) (fun hb3 => ?_)
   ·
    iterate 6 refine ak _ ?_
    refine apt ?_;refine an ?_;refine act ?_;refine AGo.region ?_;refine am 45 ?_;refine am 46 ?_;refine aq 47 (q_index_ref tok rfl rfl rfl rfl rfl rfl rfl z38q rfl (Int.natCast_nonneg _) (by omega)) ?_;refine AOps.w rfl rfl (o_store tok rfl rfl rfl rfl rfl rfl z38q (get_set_self (natCells_get (mixB_get hkl))) rfl (by decide) rfl z40q) ?_;refine an ?_;refine AGo.region ?_;refine am 17 ?_;refine aq 18 (q_inc rfl rfl hkl (show 32 ≤ maxLen by decide)) ?_
    refine aa 9 ?_;refine an ?_;exact ⟨k+1, Sub.mk' z34q z1q, hkl, by omega⟩
   ·
    refine am 38 ?_;refine aqb ?_;refine am 40 ?_;refine AOps.split 40 rfl (fun hb4 => ?_) (fun hb4 => ?_)
    ·
     refine am 41 ?_;refine aqb ?_;refine apt ?_;refine apf ?_;refine an ?_;refine AGo.split 44 rfl (fun hb5 => ?_) (fun hb5 => ?_)
     ·
      refine act ?_;refine AGo.region ?_;refine am 45 ?_;refine am 46 ?_;refine aq 47 (q_index_ref tok rfl rfl rfl rfl rfl rfl rfl z38q rfl (Int.natCast_nonneg _) (by omega)) ?_;refine AOps.w rfl rfl (o_store tok rfl rfl rfl rfl rfl rfl z38q (get_set_self (natCells_get (mixB_get hkl))) rfl (by decide) rfl z40q) ?_;refine an ?_;refine AGo.region ?_;refine am 17 ?_;refine aq 18 (q_inc rfl rfl hkl (show 32 ≤ maxLen by decide)) ?_
      refine aa 9 ?_;refine an ?_;exact ⟨k+1, Sub.mk' z34q z1q, hkl, by omega⟩
     ·
      refine acf ?_;refine AGo.skip ?_;refine AGo.region ?_;refine am 17 ?_;refine aq 18 (q_inc rfl rfl hkl (show 32 ≤ maxLen by decide)) ?_
      refine aa 9 ?_;refine an ?_;exact ⟨k+1, Sub.mk' z34q z1q, hkl, by omega⟩
    ·
     iterate 2 refine ak _ ?_
     refine apf ?_;refine apf ?_;refine an ?_;refine acf ?_;refine AGo.skip ?_;refine AGo.region ?_;refine am 17 ?_;refine aq 18 (q_inc rfl rfl hkl (show 32 ≤ maxLen by decide)) ?_
     refine aa 9 ?_;refine an ?_;exact ⟨k+1, Sub.mk' z34q z1q, hkl, by omega⟩
  ·
   iterate 2 refine ak _ ?_
   refine apf ?_
   refine am 37 ?_
   refine am 38 ?_
   refine aqb ?_
   refine am 40 ?_
   refine AOps.split 40 rfl (fun hb6 => ?_) (fun hb6 => ?_)
   ·
    refine am 41 ?_;refine aqb ?_;refine apt ?_;refine apf ?_;refine an ?_;refine AGo.split 44 rfl (fun hb7 => ?_) (fun hb7 => ?_)
    ·
     refine act ?_;refine AGo.region ?_;refine am 45 ?_;refine am 46 ?_;refine aq 47 (q_index_ref tok rfl rfl rfl rfl rfl rfl rfl z38q rfl (Int.natCast_nonneg _) (by omega)) ?_;refine AOps.w rfl rfl (o_store tok rfl rfl rfl rfl rfl rfl z38q (get_set_self (natCells_get (mixB_get hkl))) rfl (by decide) rfl z40q) ?_;refine an ?_;refine AGo.region ?_;refine am 17 ?_;refine aq 18 (q_inc rfl rfl hkl (show 32 ≤ maxLen by decide)) ?_
     refine aa 9 ?_;refine an ?_;exact ⟨k+1, Sub.mk' z34q z1q, hkl, by omega⟩
    ·
     refine acf ?_;refine AGo.skip ?_;refine AGo.region ?_;refine am 17 ?_;refine aq 18 (q_inc rfl rfl hkl (show 32 ≤ maxLen by decide)) ?_
     refine aa 9 ?_;refine an ?_;exact ⟨k+1, Sub.mk' z34q z1q, hkl, by omega⟩
   ·
    iterate 2 refine ak _ ?_
    refine apf ?_;refine apf ?_;refine an ?_;refine acf ?_;refine AGo.skip ?_;refine AGo.region ?_;refine am 17 ?_;refine aq 18 (q_inc rfl rfl hkl (show 32 ≤ maxLen by decide)) ?_
    refine aa 9 ?_;refine an ?_;exact ⟨k+1, Sub.mk' z34q z1q, hkl, by omega⟩
 ·
  refine acf ?_
  have hge : ¬ k < 32 := by have h := hb1; simp at h; omega
  obtain rfl : k = 32 := by omega
  rw [mixB_end]
  refine AGo.exit ?_
  refine AGo.seq ?_
  refine AGo.ghost (.freezeAll 7 0 rfl rfl (by simp [natCells_len, bothN_length])) ?_
  refine AGo.region ?_
  refine am 48 ?_
  refine ax 49 (o_pure rfl Try.func106 (by kernel_rfl) rfl rfl rfl (bitsOf_ok _ (bothN_length _ _ _) (bothN_lt _ _ _))) ?_
  refine aa 6 ?_
  refine an ?_
  refine AGo.ret ?_
  refine ⟨[_], ⟨rfl, trivial⟩, ?_, rfl⟩
  rfl
set_option maxRecDepth 100000 in
theorem rshift_ok (op : Int) (a b : Nat) (ha : a < 4294967296) (hb : b < 4294967296) (ho : op = 12 ∨ op = 13) : APure Try.prog 96 [.int .i64 op, .int .u32 (a : Int), .int .u32 (b : Int)] (fun r => r = .int .u32 (wshift op a b)) := by
 refine APure.of_body (n := 27) tok Try.func96 rfl rfl ?_
 refine asr ?_
 refine aa 6 ?_
 refine an ?_
 refine AGo.seq ?_
 refine asr ?_
 refine am 9 ?_
 refine aqb ?_
 refine an ?_
 refine AGo.split 10 rfl (fun hb1 => ?_) (fun hb1 => ?_)
 ·
  refine act ?_
  have hb32 : 32 ≤ b := by have h := hb1; simp at h; omega
  refine asr ?_
  refine aa 6 ?_
  refine an ?_
  refine AGo.ret ?_
  refine ⟨[_], ⟨rfl, trivial⟩, ?_, rfl⟩
  show AV.int .u32 _ = _
  rw [wshift_big op hb32]
 ·
  refine acf ?_
  have hb32 : b < 32 := by have h := hb1; simp at h; omega
  refine AGo.skip ?_
  refine asr ?_
  refine am 11 ?_
  refine aq 12 (q_convSame tok rfl rfl rfl rfl rfl (wrapN_u64 (by omega))) ?_
  refine aa 7 ?_
  refine an ?_
  refine AGo.seq ?_
  refine asr ?_
  refine aa 8 ?_
  refine an ?_
  refine AGo.block ?_
  refine AGo.loopI (γ := Nat) (fun k => ⟨27, (eput (eput (eput (eput eNew 0 (.int .i64 op)) 2 (.int .u32 (b : Int))) 7 (.int .u64 ((shN op a k : Nat) : Int))) 8 (.int .u32 (k : Int))), hNone⟩) (fun k => k ≤ b) (fun k => b - k) 0 (Sub.mk' z34q z13q) (Nat.zero_le _) ?_
  intro k hk
  refine AGo.seq ?_
  refine asr ?_
  refine am 13 ?_
  refine am 14 ?_
  refine aqb ?_
  refine an ?_
  refine AGo.split 15 rfl (fun hb2 => ?_) (fun hb2 => ?_)
  ·
   refine act ?_
   have hkl : k < b := by have h := hb2; simp at h; omega
   have hlt := shN_lt (op := op) ha k
   refine AGo.skip ?_
   refine AGo.seq ?_
   refine AGo.block ?_
   refine asr ?_
   refine am 18 ?_
   refine aqb ?_
   refine an ?_
   refine AGo.split 19 rfl (fun hb3 => ?_) (fun hb3 => ?_)
   ·
    refine act ?_;refine AGo.region ?_;refine am 20 ?_;refine aq 21 (q_bin (r := .int .u64 ((2 * shN op a k : Nat) : Int)) rfl rfl rfl (ebin_mul (a := 2) (b := shN op a k) (wrapN_u64 (by omega)))) ?_;refine aq 22 (q_bin (r := .int .u64 ((2 * shN op a k % 4294967296 : Nat) : Int)) rfl rfl rfl (ebin_rem (a := 2 * shN op a k) (b := 4294967296) (by decide))) ?_;refine aa 7 ?_;refine an ?_;refine AGo.region ?_;refine am 16 ?_;refine aq 17 (q_bin (r := .int .u32 ((k + 1 : Nat) : Int)) rfl rfl rfl (ebin_add (b := 1) (wrapN_u32 (by omega)))) ?_;refine aa 8 ?_;refine an ?_;exact ⟨k+1, Sub.mk' (by repeat (first | exact ESub.new _ | refine ESub.put ?_ (by first | rfl | exact congrArg (fun (n : Nat) => some (AV.int .u64 (n : Int))) (by simp only [shN, *, cond_true, cond_false])))) z13q, hkl, by omega⟩
   ·
    refine acf ?_;refine AGo.region ?_;refine am 23 ?_;refine aq 24 (q_bin (r := .int .u64 ((shN op a k / 2 : Nat) : Int)) rfl rfl rfl (ebin_quo (a := shN op a k) (b := 2) (by decide) (wrapN_u64 (by omega)))) ?_;refine aa 7 ?_;refine an ?_;refine AGo.region ?_;refine am 16 ?_;refine aq 17 (q_bin (r := .int .u32 ((k + 1 : Nat) : Int)) rfl rfl rfl (ebin_add (b := 1) (wrapN_u32 (by omega)))) ?_;refine aa 8 ?_;refine an ?_;exact ⟨k+1, Sub.mk' (by repeat (first | exact ESub.new _ | refine ESub.put ?_ (by first | rfl | exact congrArg (fun (n : Nat) => some (AV.int .u64 (n : Int))) (by simp only [shN, *, cond_true, cond_false])))) z13q, hkl, by omega⟩
  ·
   refine acf ?_
   obtain rfl : k = b := by have h := hb2; simp at h; omega
   refine AGo.exit ?_
   refine asr ?_
   refine am 25 ?_
   refine aq 26 (q_convSame tok rfl rfl rfl rfl rfl (wrapN_u32 (shN_lt ha _))) ?_
   refine aa 6 ?_
   refine an ?_
   refine AGo.ret ?_
   refine ⟨[_], ⟨rfl, trivial⟩, ?_, rfl⟩
   show AV.int .u32 _ = _
   rw [wshift_small ha hb32 ho]
set_option maxRecDepth 100000 in
theorem flag_ok (ok : Bool) : APure Try.prog 97 [.bool ok] (fun r => r = .int .u32 (bif ok then 1 else 0)) := by
 refine APure.of_body (n := 4) tok Try.func97 rfl rfl ?_
 refine asr ?_
 refine aa 2 ?_
 refine an ?_
 refine AGo.seq ?_
 refine asr ?_
 refine am 3 ?_
 refine an ?_
 refine AGo.split 3 rfl (fun hb1 => ?_) (fun hb1 => ?_)
 ·
  refine act ?_
  refine asr ?_
  refine aa 2 ?_
  refine an ?_
  refine AGo.ret ?_
  refine ⟨[_], ⟨rfl, trivial⟩, ?_, rfl⟩
  show AV.int .u32 _ = _
  simp [*]
 ·
  refine acf ?_
  refine AGo.skip ?_
  refine asr ?_
  refine aa 2 ?_
  refine an ?_
  refine AGo.ret ?_
  refine ⟨[_], ⟨rfl, trivial⟩, ?_, rfl⟩
  show AV.int .u32 _ = _
  simp [*]
set_option maxRecDepth 100000 in
theorem rapply_okN (op : Int) (a b : Nat) (ha : a < 4294967296) (hb : b < 4294967296) : APure Try.prog 74 [.int .i64 op, .int .u32 (a : Int), .int .u32 (b : Int)] (fun r => r = wpair (wapp op a b)) := by
 refine APure.of_body (n := 80) tok Try.func74 rfl rfl ?_
 refine asr ?_
 refine aa 6 ?_
 refine aa 7 ?_
 refine an ?_
 refine asr ?_
 refine am 10 ?_
 refine aq 11 (q_convSame tok rfl rfl rfl rfl rfl (wrapN_u64 (by omega))) ?_
 refine am 12 ?_
 refine aq 13 (q_convSame tok rfl rfl rfl rfl rfl (wrapN_u64 (by omega))) ?_
 refine aa 8 ?_
 refine aa 9 ?_
 refine an ?_
 refine AGo.seq ?_
 refine asr ?_
 refine am 14 ?_
 refine an ?_
 refine AGo.block ?_
 refine asr ?_
 refine aqb ?_
 refine aa 15 ?_
 refine an ?_
 refine AGo.split 15 rfl (fun hb1 => ?_) (fun hb1 => ?_)
 ·
  refine act ?_
  obtain rfl : op = 4 := by simpa using hb1
  refine asr ?_
  refine am 17 ?_
  refine am 18 ?_
  refine aq 19 (q_bin (r := .int .u64 ((a + b : Nat) : Int)) rfl rfl rfl (ebin_add (wrapN_u64 (by omega)))) ?_
  refine aq 20 (q_bin (r := .int .u64 (((a + b) % 4294967296 : Nat) : Int)) rfl rfl rfl (ebin_rem (a := a + b) (b := 4294967296) (by decide))) ?_
  refine aq 21 (q_convSame tok rfl rfl rfl rfl rfl (wrapN_u32 (Nat.mod_lt _ (by decide)))) ?_
  refine aa 6 ?_
  refine aa 7 ?_
  refine an ?_
  refine AGo.ret ?_
  refine ⟨[_, _], ⟨rfl, rfl, trivial⟩, ?_, rfl⟩
  show AV.tup _ = _
  rw [wapp_add]; rfl
 ·
  refine acf ?_
  refine asr ?_
  refine aqb ?_
  refine aa 22 ?_
  refine an ?_
  refine AGo.split 22 rfl (fun hb2 => ?_) (fun hb2 => ?_)
  ·
   refine act ?_
   obtain rfl : op = 5 := by simpa using hb2
   refine asr ?_
   refine am 24 ?_
   refine aq 25 (q_bin (r := .int .u64 ((a + 4294967296 : Nat) : Int)) rfl rfl rfl (ebin_add (b := 4294967296) (wrapN_u64 (by omega)))) ?_
   refine am 26 ?_
   refine aq 27 (q_bin (r := .int .u64 ((a + 4294967296 - b : Nat) : Int)) rfl rfl rfl (ebin_sub (by omega) (wrapN_u64 (by omega)))) ?_
   refine aq 28 (q_bin (r := .int .u64 (((a + 4294967296 - b) % 4294967296 : Nat) : Int)) rfl rfl rfl (ebin_rem (a := a + 4294967296 - b) (b := 4294967296) (by decide))) ?_
   refine aq 29 (q_convSame tok rfl rfl rfl rfl rfl (wrapN_u32 (Nat.mod_lt _ (by decide)))) ?_
   refine aa 6 ?_
   refine aa 7 ?_
   refine an ?_
   refine AGo.ret ?_
   refine ⟨[_, _], ⟨rfl, rfl, trivial⟩, ?_, rfl⟩
   show AV.tup _ = _
   rw [wapp_sub hb]; rfl
  ·
   refine acf ?_
   refine asr ?_
   refine aqb ?_
   refine aa 30 ?_
   refine an ?_
   refine AGo.split 30 rfl (fun hb3 => ?_) (fun hb3 => ?_)
   ·
    refine act ?_
    obtain rfl : op = 6 := by simpa using hb3
    have hab : a * b < 18446744073709551616 := by have := Nat.mul_lt_mul'' ha hb; omega
    refine asr ?_;refine am 32 ?_;refine am 33 ?_;refine aq 34 (q_bin (r := .int .u64 ((a * b : Nat) : Int)) rfl rfl rfl (ebin_mul (wrapN_u64 hab))) ?_;refine aq 35 (q_bin (r := .int .u64 ((a * b % 4294967296 : Nat) : Int)) rfl rfl rfl (ebin_rem (a := a * b) (b := 4294967296) (by decide))) ?_;refine aq 36 (q_convSame tok rfl rfl rfl rfl rfl (wrapN_u32 (Nat.mod_lt _ (by decide)))) ?_;refine aa 6 ?_;refine aa 7 ?_;refine an ?_;refine AGo.ret ?_;refine ⟨[_, _], ⟨rfl, rfl, trivial⟩, ?_, rfl⟩
    show AV.tup _ = _
    rw [wapp_mul]; rfl
   ·
    refine acf ?_;refine asr ?_;refine aqb ?_;refine aa 37 ?_;refine an ?_;refine AGo.split 37 rfl (fun hb4 => ?_) (fun hb4 => ?_)
    ·
     refine act ?_
     obtain rfl : op = 7 := by simpa using hb4
     refine AGo.seq ?_;refine asr ?_;refine am 39 ?_;refine aqb ?_;refine an ?_;refine AGo.split 40 rfl (fun hb5 => ?_) (fun hb5 => ?_)
     ·
      refine act ?_
      obtain rfl : b = 0 := by have h := hb5; simp at h; omega
      refine asr ?_;refine aa 6 ?_;refine aa 7 ?_;refine an ?_;refine AGo.ret ?_;refine ⟨[_, _], ⟨rfl, rfl, trivial⟩, ?_, rfl⟩
      show AV.tup _ = _
      rw [show (((0 : Nat) : Int)) = 0 from rfl, wapp_div0 _ _ (by simp)]; rfl
     ·
      refine acf ?_
      have hb0 : ¬ b = 0 := by have h := hb5; simp at h; omega
      have hda := Nat.div_le_self a b
      refine AGo.skip ?_;refine asr ?_;refine am 41 ?_;refine am 42 ?_;refine aq 43 (q_bin (r := .int .u64 ((a / b : Nat) : Int)) rfl rfl rfl (ebin_quo (Nat.pos_of_ne_zero hb0) (wrapN_u64 (by omega)))) ?_;refine aq 44 (q_convSame tok rfl rfl rfl rfl rfl (wrapN_u32 (by omega))) ?_;refine aa 6 ?_;refine aa 7 ?_;refine an ?_;refine AGo.ret ?_;refine ⟨[_, _], ⟨rfl, rfl, trivial⟩, ?_, rfl⟩
      show AV.tup _ = _
      rw [wapp_div ha hb0]; rfl
    ·
     refine acf ?_;refine asr ?_;refine aqb ?_;refine aa 45 ?_;refine an ?_;refine AGo.split 45 rfl (fun hb6 => ?_) (fun hb6 => ?_)
     ·
      refine act ?_
      obtain rfl : op = 8 := by simpa using hb6
      refine AGo.seq ?_;refine asr ?_;refine am 47 ?_;refine aqb ?_;refine an ?_;refine AGo.split 48 rfl (fun hb7 => ?_) (fun hb7 => ?_)
      ·
       refine act ?_
       obtain rfl : b = 0 := by have h := hb7; simp at h; omega
       refine asr ?_;refine aa 6 ?_;refine aa 7 ?_;refine an ?_;refine AGo.ret ?_;refine ⟨[_, _], ⟨rfl, rfl, trivial⟩, ?_, rfl⟩
       show AV.tup _ = _
       rw [show (((0 : Nat) : Int)) = 0 from rfl, wapp_div0 _ _ (by simp)]; rfl
      ·
       refine acf ?_
       have hb0 : ¬ b = 0 := by have h := hb7; simp at h; omega
       have hma := Nat.mod_lt a (Nat.pos_of_ne_zero hb0)
       refine AGo.skip ?_;refine asr ?_;refine am 49 ?_;refine am 50 ?_;refine aq 51 (q_bin (r := .int .u64 ((a % b : Nat) : Int)) rfl rfl rfl (ebin_rem (Nat.pos_of_ne_zero hb0))) ?_;refine aq 52 (q_convSame tok rfl rfl rfl rfl rfl (wrapN_u32 (by omega))) ?_;refine aa 6 ?_;refine aa 7 ?_;refine an ?_;refine AGo.ret ?_;refine ⟨[_, _], ⟨rfl, rfl, trivial⟩, ?_, rfl⟩
       show AV.tup _ = _
       rw [wapp_mod hb0]; rfl
     ·
      refine acf ?_;refine AGo.seq ?_;refine asr ?_;refine aqb ?_;refine aa 53 ?_;refine an ?_;refine AGo.split 53 rfl (fun hb8 => ?_) (fun hb8 => ?_)
      ·
       refine act ?_;refine AGo.skip ?_;refine act ?_;refine asr ?_
       have ho : op = 9 ∨ op = 10 ∨ op = 11 := by simp_all
       refine am 57 ?_;refine am 58 ?_;refine am 59 ?_;refine ax 60 (o_pure rfl Try.func95 (by kernel_rfl) rfl rfl rfl (both_ok _ a b ha hb)) ?_;refine aa 6 ?_;refine aa 7 ?_;refine an ?_;refine AGo.ret ?_;refine ⟨[_, _], ⟨rfl, rfl, trivial⟩, ?_, rfl⟩
       show AV.tup _ = _
       rw [wapp_both ha hb ho]; rfl
      ·
       refine acf ?_;refine asr ?_;refine aqb ?_;refine aa 53 ?_;refine an ?_;refine AGo.split 53 rfl (fun hb9 => ?_) (fun hb9 => ?_)
       ·
        refine act ?_;refine AGo.skip ?_;refine act ?_;refine asr ?_
        have ho : op = 9 ∨ op = 10 ∨ op = 11 := by simp_all
        refine am 57 ?_;refine am 58 ?_;refine am 59 ?_;refine ax 60 (o_pure rfl Try.func95 (by kernel_rfl) rfl rfl rfl (both_ok _ a b ha hb)) ?_;refine aa 6 ?_;refine aa 7 ?_;refine an ?_;refine AGo.ret ?_;refine ⟨[_, _], ⟨rfl, rfl, trivial⟩, ?_, rfl⟩
        show AV.tup _ = _
        rw [wapp_both ha hb ho]; rfl
       ·
        refine acf ?_;refine AGo.region ?_;refine aqb ?_;refine aa 53 ?_;refine an ?_;refine AGo.split 53 rfl (fun hb10 => ?_) (fun hb10 => ?_)
        ·
         refine act ?_;refine asr ?_
         have ho : op = 9 ∨ op = 10 ∨ op = 11 := by simp_all
         refine am 57 ?_;refine am 58 ?_;refine am 59 ?_;refine ax 60 (o_pure rfl Try.func95 (by kernel_rfl) rfl rfl rfl (both_ok _ a b ha hb)) ?_;refine aa 6 ?_;refine aa 7 ?_;refine an ?_;refine AGo.ret ?_;refine ⟨[_, _], ⟨rfl, rfl, trivial⟩, ?_, rfl⟩
         show AV.tup _ = _
         rw [wapp_both ha hb ho]; rfl
        ·
         refine acf ?_;refine AGo.seq ?_;refine asr ?_;refine aqb ?_;refine aa 61 ?_;refine an ?_;refine AGo.split 61 rfl (fun hb11 => ?_) (fun hb11 => ?_)
         ·
          refine act ?_;refine AGo.skip ?_;refine act ?_;refine asr ?_
          have ho : op = 12 ∨ op = 13 := by simp_all
          refine am 64 ?_;refine am 65 ?_;refine am 66 ?_;refine ax 67 (o_pure rfl Try.func96 (by kernel_rfl) rfl rfl rfl (rshift_ok _ a b ha hb ho)) ?_;refine aa 6 ?_;refine aa 7 ?_;refine an ?_;refine AGo.ret ?_;refine ⟨[_, _], ⟨rfl, rfl, trivial⟩, ?_, rfl⟩
          show AV.tup _ = _
          rw [wapp_shift ho]; rfl
         ·
          refine acf ?_;refine AGo.region ?_;refine aqb ?_;refine aa 61 ?_;refine an ?_;refine AGo.split 61 rfl (fun hb12 => ?_) (fun hb12 => ?_)
          ·
           refine act ?_;refine asr ?_
           have ho : op = 12 ∨ op = 13 := by simp_all
           refine am 64 ?_;refine am 65 ?_;refine am 66 ?_;refine ax 67 (o_pure rfl Try.func96 (by kernel_rfl) rfl rfl rfl (rshift_ok _ a b ha hb ho)) ?_;refine aa 6 ?_;refine aa 7 ?_;refine an ?_;refine AGo.ret ?_;refine ⟨[_, _], ⟨rfl, rfl, trivial⟩, ?_, rfl⟩
           show AV.tup _ = _
           rw [wapp_shift ho]; rfl
          ·
           refine acf ?_;refine asr ?_;refine aqb ?_;refine aa 68 ?_;refine an ?_;refine AGo.split 68 rfl (fun hb13 => ?_) (fun hb13 => ?_)
           ·
            refine act ?_
            obtain rfl : op = 14 := by simpa using hb13
            refine asr ?_;refine am 70 ?_;refine am 71 ?_;refine aqb ?_;refine ax 73 (o_pure rfl Try.func97 (by kernel_rfl) rfl rfl rfl (flag_ok _)) ?_;refine aa 6 ?_;refine aa 7 ?_;refine an ?_;refine AGo.ret ?_;refine ⟨[_, _], ⟨rfl, rfl, trivial⟩, ?_, rfl⟩
            show AV.tup _ = _
            rw [wapp_lt]; rfl
           ·
            refine acf ?_;refine asr ?_;refine aqb ?_;refine aa 74 ?_;refine an ?_;refine AGo.split 74 rfl (fun hb14 => ?_) (fun hb14 => ?_)
            ·
             refine act ?_
             obtain rfl : op = 15 := by simpa using hb14
             refine asr ?_;refine am 76 ?_;refine am 77 ?_;refine aqb ?_;refine ax 79 (o_pure rfl Try.func97 (by kernel_rfl) rfl rfl rfl (flag_ok _)) ?_;refine aa 6 ?_;refine aa 7 ?_;refine an ?_;refine AGo.ret ?_;refine ⟨[_, _], ⟨rfl, rfl, trivial⟩, ?_, rfl⟩
             show AV.tup _ = _
             rw [wapp_eq]; rfl
            ·
             refine acf ?_;refine AGo.skip ?_;refine asr ?_;refine aa 6 ?_;refine aa 7 ?_;refine an ?_;refine AGo.ret ?_;refine ⟨[_, _], ⟨rfl, rfl, trivial⟩, ?_, rfl⟩
             show AV.tup _ = AV.tup _
             simp [wapp, *]
theorem rapply_ok (op a b : Int) (ha : isW a) (hb : isW b) : APure Try.prog 74 [.int .i64 op, .int .u32 a, .int .u32 b] (fun r => r = wpair (wapp op a b)) := by
  obtain ⟨n, rfl⟩ := Int.eq_ofNat_of_zero_le ha.1
  obtain ⟨m, rfl⟩ := Int.eq_ofNat_of_zero_le hb.1
  exact rapply_okN op n m (by have := ha.2; omega) (by have := hb.2; omega)
end Go.Proofs.Ytmfihmkopmgelaa.Sv
