/-
  The law BuildWide of the given program answers true for every input, and leaves its arguments as they were. There is no condition. Own work.
  WALKS: printed by a program of our own from the code's tree.
-/
import Derived.Test.YtmfihmkopmgelaaPBuildWide4
import Derived.Test.YtmfihmkopmgelaaPBuildWide3
import Derived.Test.YtmfihmkopmgelaaPBuildWide2
namespace Go.Proofs.Ytmfihmkopmgelaa.Sv
open Go
set_option maxHeartbeats 1000000 in
set_option maxRecDepth 100000 in
theorem bnought_ok (C : Core) (w : Bool) (b : Bd) (a to : Int) (hb : b.Cur) (ha : 0 ≤ a) (ha2 : a ≤ 1000000) (hto : to ≤ 1000000) (hto0 : 0 ≤ to) (hc : b.cnt ≤ 50000000) : ACall Try.prog 29 [.ptr 2 1 0 0, .int .i64 a, .int .i64 to] (RH (bL C w b) (bFam (b).blocks)) (fun r h' => r = .tup [] ∧ HSub (putR 2 hNone (RH (bL C w (b.nought a (to - a).toNat)) (bFam ((b.nought a (to - a).toNat)).blocks))) h') := by
 obtain ⟨x, hx⟩ := id hb
 refine ACall.of_body (n := 80) tok Try.func29 rfl rfl ?_
 refine AGo.seq ?_
 refine asr ?_
 refine am 10 ?_
 refine am 11 ?_
 refine aqb ?_
 refine an ?_
 refine AGo.split 12 rfl (fun hb1 => ?_) (fun hb1 => ?_)
 ·
  refine act ?_
  refine AGo.ret ?_
  rw [nought_nil b a (show (to - a).toNat = 0 by have h := hb1; simp at h; omega)]
  exact ⟨[], trivial, rfl, (rh_sub rfl (by decide) z24q z7q)⟩
 ·
  refine acf ?_
  have hlt : a < to := by have h := hb1; simp at h; omega
  refine AGo.skip ?_
  refine asr ?_
  refine am 13 ?_
  refine AOps.call 14 (hn := putR 2 _ (RH (bL C w (b.put (iNum 0 0))) (bFam ((b.put (iNum 0 0))).blocks))) (r := .tup []) rfl rfl rfl (o_callRH 2 (bL C w b) (bL C w (b.put (iNum 0 0))) (bFam ((b.put (iNum 0 0))).blocks) rfl Try.func44 (by kernel_rfl) rfl rfl rfl rfl rfl (by decide) (bL_avoid C w _) (bL_avoid C w _) z24q z7q (fun x => bFam_avoid _ x) (fun x => bFam_avoid _ x) rfl (bnum_ok C w b x hx (by omega) 0 0 (by omega))) ?_
  refine an ?_
  refine AGo.seq ?_
  refine AGo.block ?_
  refine AGo.loopK (γ := Nat × Bd × Int) (kf 4) (fun q => ⟨80, (eput (eput (eput eNew 0 (.ptr 2 1 0 0)) 1 (.int .i64 q.2.2)) 2 (.int .i64 to)), (fam (nb [.free, .free, (.row false 6 [bCell C w q.2.1]), (.row false 5 (bRows (q.2.1).blocks))]) (bFam (q.2.1).blocks))⟩) (fun q => NoW (b.nought a (to - a).toNat) to (b.cnt + 1 + (to - a).toNat) q) (fun q => (to - q.2.2).toNat) ((to - a).toNat, (b.put (iNum 0 0)), a) (Sub.mk' z26q (famSub (k0 := 4) rfl z16q z18q (fun c h1 h2 => by rcases (by omega : c = 4 ∨ c = 5 ∨ c = 6 ∨ c = 7 ∨ c = 8 ∨ c = 9 ∨ c = 10 ∨ c = 11 ∨ c = 12 ∨ c = 13 ∨ c = 14 ∨ c = 15) with rfl | rfl | rfl | rfl | rfl | rfl | rfl | rfl | rfl | rfl | rfl | rfl <;> first | rfl | (try simp only [hputs]; repeat (first | rfl | refine hput_skip (by exact beq_false_of_ne (by omega)) ?_ | refine hrm_skip (by omega) ?_))))) (NoW.first hb ha hlt) (fun g b hb => famFree (k0 := 4) rfl hb) ?_
  intro q hQ
  have hc0 := hQ.cnt
  have hqa := hQ.a0
  have hqt := hQ.a1
  refine AGo.seq ?_
  refine asr ?_
  refine am 15 ?_
  refine am 16 ?_
  refine aq 17 (q_bin (r := .int .i64 (to - q.2.2)) rfl rfl rfl z23q) ?_
  refine aqb ?_
  refine an ?_
  refine AGo.split 18 rfl (fun hb2 => ?_) (fun hb2 => ?_)
  ·
   refine act ?_
   have hn64 : 64 < (to - q.2.2).toNat := by have h := hb2; simp at h; omega
   have hN := hQ.next hn64
   have hc0 := hQ.cnt
   have hqa := hQ.a0
   have hqt := hQ.a1
   have hn3 := chunkN_ok hn64
   obtain ⟨x0, hx0⟩ := id hQ.cur
   have u1 := hQ.cur.put (iNum 1 0)
   have c1 := hQ.cur.cnt (iNum 1 0)
   obtain ⟨x1, hx1⟩ := id u1
   have u2 := u1.put (iNum 2 8)
   have c2 := u1.cnt (iNum 2 8)
   obtain ⟨x2, hx2⟩ := id u2
   have u3 : Bd.Cur (q.2.1.chunk1 (chunkN (to - q.2.2).toNat)) := u2.put (iNum 3 (chunkN (to - q.2.2).toNat))
   have c3 : Bd.cnt (q.2.1.chunk1 (chunkN (to - q.2.2).toNat)) = _ := u2.cnt (iNum 3 (chunkN (to - q.2.2).toNat))
   obtain ⟨x4, hx4⟩ := id u3.opened
   have u4 := cur_chunk2 u3
   have c4 := cnt_chunk2 (q.2.1.chunk1 (chunkN (to - q.2.2).toNat))
   have u8 := cur_astores u4 q.2.2 (((chunkN (to - q.2.2).toNat) : Int) - 7) 8
   have c8 := cnt_astores u4 q.2.2 (((chunkN (to - q.2.2).toNat) : Int) - 7) 8
   obtain ⟨y8, hy8⟩ := id u8
   have u9 := u8.put (iBin 4 1 1 2)
   have c9 := u8.cnt (iBin 4 1 1 2)
   obtain ⟨y9, hy9⟩ := id u9
   have u10 := u9.put (iBin 14 4 1 3)
   have c10 := u9.cnt (iBin 14 4 1 3)
   obtain ⟨y11, hy11⟩ := id u10.opened
   refine AGo.skip ?_
   refine AGo.block ?_
   refine asr ?_
   refine am 19 ?_
   refine am 20 ?_
   refine aq 21 (q_bin (r := .int .i64 (to - q.2.2)) rfl rfl rfl z23q) ?_
   refine aq 22 (q_min rfl rfl rfl) ?_
   refine aq 23 (q_bin (r := .int .i64 ((min (to - q.2.2).toNat 4096 / 8 : Nat) : Int)) rfl rfl rfl (chunk_quo hn64)) ?_
   refine aq 24 (q_bin (r := .int .i64 ((chunkN (to - q.2.2).toNat) : Int)) rfl rfl rfl chunk_mul) ?_
   refine aa 6 ?_
   refine an ?_
   refine asr ?_
   refine am 25 ?_
   refine AOps.call 26 (hn := putR 2 _ (RH (bL C w (q.2.1.put (iNum 1 0))) (bFam ((q.2.1.put (iNum 1 0))).blocks))) (r := .tup []) rfl rfl rfl (o_callRH 2 (bL C w q.2.1) (bL C w (q.2.1.put (iNum 1 0))) (bFam ((q.2.1.put (iNum 1 0))).blocks) rfl Try.func44 (by kernel_rfl) rfl rfl rfl rfl rfl (by decide) (bL_avoid C w _) (bL_avoid C w _) z24q z7q (fun x => bFam_avoid _ x) (fun x => bFam_avoid _ x) rfl (bnum_ok C w q.2.1 x0 hx0 (by omega) 1 0 (by omega))) ?_
   refine an ?_
   refine asr ?_
   refine am 27 ?_
   refine AOps.call 28 (hn := putR 2 _ (RH (bL C w ((q.2.1.put (iNum 1 0)).put (iNum 2 8))) (bFam (((q.2.1.put (iNum 1 0)).put (iNum 2 8))).blocks))) (r := .tup []) rfl rfl rfl (o_callRH 2 (bL C w (q.2.1.put (iNum 1 0))) (bL C w ((q.2.1.put (iNum 1 0)).put (iNum 2 8))) (bFam (((q.2.1.put (iNum 1 0)).put (iNum 2 8))).blocks) rfl Try.func44 (by kernel_rfl) rfl rfl rfl rfl rfl (by decide) (bL_avoid C w _) (bL_avoid C w _) z24q z7q (fun x => bFam_avoid _ x) (fun x => bFam_avoid _ x) rfl (bnum_ok C w (q.2.1.put (iNum 1 0)) x1 hx1 (by omega) 2 8 (by omega))) ?_
   refine an ?_
   refine asr ?_
   refine am 29 ?_
   refine am 30 ?_
   refine aq 31 (q_convTo tok rfl rfl rfl rfl rfl (r := ((chunkN (to - q.2.2).toNat) : Int)) (by rw [IntKind.wrap_u32]; omega)) ?_
   refine AOps.call 32 (hn := putR 2 _ (RH (bL C w (q.2.1.chunk1 (chunkN (to - q.2.2).toNat))) (bFam ((q.2.1.chunk1 (chunkN (to - q.2.2).toNat))).blocks))) (r := .tup []) rfl rfl rfl (o_callRH 2 (bL C w ((q.2.1.put (iNum 1 0)).put (iNum 2 8))) (bL C w (q.2.1.chunk1 (chunkN (to - q.2.2).toNat))) (bFam ((q.2.1.chunk1 (chunkN (to - q.2.2).toNat))).blocks) rfl Try.func44 (by kernel_rfl) rfl rfl rfl rfl rfl (by decide) (bL_avoid C w _) (bL_avoid C w _) z24q z7q (fun x => bFam_avoid _ x) (fun x => bFam_avoid _ x) rfl (bnum_ok C w ((q.2.1.put (iNum 1 0)).put (iNum 2 8)) x2 hx2 (by omega) 3 (chunkN (to - q.2.2).toNat) (by omega))) ?_
   refine an ?_
   refine asr ?_
   refine am 33 ?_
   refine AOps.call 34 (hn := putR 2 _ (RH (bL C w ((q.2.1.chunk1 (chunkN (to - q.2.2).toNat)).opened)) (bFam (((q.2.1.chunk1 (chunkN (to - q.2.2).toNat)).opened)).blocks))) (r := .int .i64 ((q.2.1.chunk1 (chunkN (to - q.2.2).toNat)).blocks.length : Int)) rfl rfl rfl (o_callRH 2 (bL C w (q.2.1.chunk1 (chunkN (to - q.2.2).toNat))) (bL C w ((q.2.1.chunk1 (chunkN (to - q.2.2).toNat)).opened)) (bFam (((q.2.1.chunk1 (chunkN (to - q.2.2).toNat)).opened)).blocks) rfl Try.func28 (by kernel_rfl) rfl rfl rfl rfl rfl (by decide) (bL_avoid C w _) (bL_avoid C w _) z24q z7q (fun x => bFam_avoid _ x) (fun x => bFam_avoid _ x) rfl (bopen_ok C w _ (by have := cnt_len (q.2.1.chunk1 (chunkN (to - q.2.2).toNat)); omega))) ?_
   refine aa 7 ?_
   refine an ?_
   refine asr ?_
   refine am 35 ?_
   refine am 36 ?_
   refine AOps.call 37 (hn := putR 2 _ (RH (bL C w ((q.2.1.chunk1 (chunkN (to - q.2.2).toNat)).opened.jump (q.2.1.chunk1 (chunkN (to - q.2.2).toNat)).blocks.length)) (bFam (((q.2.1.chunk1 (chunkN (to - q.2.2).toNat)).opened.jump (q.2.1.chunk1 (chunkN (to - q.2.2).toNat)).blocks.length)).blocks))) (r := .tup []) rfl rfl rfl (o_callRH 2 (bL C w ((q.2.1.chunk1 (chunkN (to - q.2.2).toNat)).opened)) (bL C w ((q.2.1.chunk1 (chunkN (to - q.2.2).toNat)).opened.jump (q.2.1.chunk1 (chunkN (to - q.2.2).toNat)).blocks.length)) (bFam (((q.2.1.chunk1 (chunkN (to - q.2.2).toNat)).opened.jump (q.2.1.chunk1 (chunkN (to - q.2.2).toNat)).blocks.length)).blocks) rfl Try.func45 (by kernel_rfl) rfl rfl rfl rfl rfl (by decide) (bL_avoid C w _) (bL_avoid C w _) z24q z7q (fun x => bFam_avoid _ x) (fun x => bFam_avoid _ x) rfl (bjump_ok C w ((q.2.1.chunk1 (chunkN (to - q.2.2).toNat)).opened) x4 hx4 (q.2.1.chunk1 (chunkN (to - q.2.2).toNat)).blocks.length)) ?_
   refine an ?_
   refine asr ?_
   refine am 38 ?_
   refine am 39 ?_
   refine aq 40 (q_nilCheck rfl rfl rfl) ?_
   refine af 41 tok ?_
   refine AOps.w rfl rfl (o_store tok rfl rfl rfl rfl rfl rfl rfl rfl rfl (by decide) rfl z30q) ?_
   refine an ?_
   refine AGo.seq ?_
   refine AGo.seq ?_
   refine AGo.sub (s' := ⟨80, (eput (eput (eput (eput (eput eNew 0 (.ptr 2 1 0 0)) 1 (.int .i64 q.2.2)) 2 (.int .i64 to)) 6 (.int .i64 ((chunkN (to - q.2.2).toNat) : Int))) 7 (.int .i64 ((q.2.1.chunk1 (chunkN (to - q.2.2).toNat)).blocks.length : Int))), (fam (nb [.free, .free, (.row false 6 [bCell C w ((q.2.1.chunk1 (chunkN (to - q.2.2).toNat)).chunk2)]), (.row false 5 (bRows (((q.2.1.chunk1 (chunkN (to - q.2.2).toNat)).chunk2)).blocks))]) (bFam (((q.2.1.chunk1 (chunkN (to - q.2.2).toNat)).chunk2)).blocks))⟩) (Sub.mk' z26q (famSub (k0 := 4) rfl z16q z7q (fun c h1 h2 => by rcases (by omega : c = 4 ∨ c = 5 ∨ c = 6 ∨ c = 7 ∨ c = 8 ∨ c = 9 ∨ c = 10 ∨ c = 11 ∨ c = 12 ∨ c = 13 ∨ c = 14 ∨ c = 15) with rfl | rfl | rfl | rfl | rfl | rfl | rfl | rfl | rfl | rfl | rfl | rfl <;> first | rfl | (try simp only [hputs]; repeat (first | rfl | refine hput_skip (by exact beq_false_of_ne (by omega)) ?_ | refine hrm_skip (by omega) ?_))))) ?_
   refine AGo.region ?_
   refine am 42 ?_
   refine an ?_
   refine AGo.block ?_
   refine AGo.loopK (γ := Nat) (kf 4) (fun j => ⟨80, (eput (eput (eput (eput (eput (eput eNew 0 (.ptr 2 1 0 0)) 1 (.int .i64 q.2.2)) 2 (.int .i64 to)) 6 (.int .i64 ((chunkN (to - q.2.2).toNat) : Int))) 7 (.int .i64 ((q.2.1.chunk1 (chunkN (to - q.2.2).toNat)).blocks.length : Int))) 42 (.int .i64 (j : Int))), (fam (nb [.free, .free, (.row false 6 [bCell C w (((q.2.1.chunk1 (chunkN (to - q.2.2).toNat)).chunk2).astores q.2.2 (((chunkN (to - q.2.2).toNat) : Int) - 7) j)]), (.row false 5 (bRows ((((q.2.1.chunk1 (chunkN (to - q.2.2).toNat)).chunk2).astores q.2.2 (((chunkN (to - q.2.2).toNat) : Int) - 7) j)).blocks))]) (bFam ((((q.2.1.chunk1 (chunkN (to - q.2.2).toNat)).chunk2).astores q.2.2 (((chunkN (to - q.2.2).toNat) : Int) - 7) j)).blocks))⟩) (fun j => j ≤ 8) (fun j => 8 - j) 0 (Sub.mk' z26q (famSub (k0 := 4) rfl z16q z18q (fun c h1 h2 => by rcases (by omega : c = 4 ∨ c = 5 ∨ c = 6 ∨ c = 7 ∨ c = 8 ∨ c = 9 ∨ c = 10 ∨ c = 11 ∨ c = 12 ∨ c = 13 ∨ c = 14 ∨ c = 15) with rfl | rfl | rfl | rfl | rfl | rfl | rfl | rfl | rfl | rfl | rfl | rfl <;> first | rfl | (try simp only [hputs]; repeat (first | rfl | refine hput_skip (by exact beq_false_of_ne (by omega)) ?_ | refine hrm_skip (by omega) ?_))))) (Nat.zero_le _) (fun g b hb => famFree (k0 := 4) rfl hb) ?_
   intro j hj
   refine asr ?_
   refine aqb ?_
   refine an ?_
   refine AGo.seq ?_
   refine AGo.split 43 rfl (fun hb3 => ?_) (fun hb3 => ?_)
   ·
    refine act ?_
    have hjl : j < 8 := by have h := hb3; simp at h; omega
    obtain ⟨y, hy⟩ := cur_astores u4 q.2.2 (((chunkN (to - q.2.2).toNat) : Int) - 7) j
    have cj := cnt_astores u4 q.2.2 (((chunkN (to - q.2.2).toNat) : Int) - 7) j
    refine AGo.skip ?_
    refine AGo.seq ?_
    refine AGo.block ?_
    refine asr ?_
    refine am 44 ?_
    refine aa 8 ?_
    refine an ?_
    refine AGo.region ?_
    refine am 45 ?_
    refine am 46 ?_
    refine am 47 ?_
    refine aq 48 (q_bin (r := .int .i64 (q.2.2 + (j : Int))) rfl rfl rfl z23q) ?_
    refine am 49 ?_
    refine aq 50 (q_bin (r := .int .i64 (((chunkN (to - q.2.2).toNat) : Int) - 8)) rfl rfl rfl z23q) ?_
    refine aq 51 (q_bin (r := .int .i64 (((chunkN (to - q.2.2).toNat) : Int) - 7)) rfl rfl rfl z21q) ?_
    refine aq 52 (q_build tok rfl rfl rfl rfl rfl (by decide) rfl rfl rfl) ?_
    refine AOps.call 53 (hn := putR 2 _ (RH (bL C w ((((q.2.1.chunk1 (chunkN (to - q.2.2).toNat)).chunk2).astores q.2.2 (((chunkN (to - q.2.2).toNat) : Int) - 7) j).put (iAStore 1 0 (q.2.2 + (j : Int)) (((chunkN (to - q.2.2).toNat) : Int) - 7)))) (bFam (((((q.2.1.chunk1 (chunkN (to - q.2.2).toNat)).chunk2).astores q.2.2 (((chunkN (to - q.2.2).toNat) : Int) - 7) j).put (iAStore 1 0 (q.2.2 + (j : Int)) (((chunkN (to - q.2.2).toNat) : Int) - 7)))).blocks))) (r := .tup []) rfl rfl rfl (o_callRH 2 (bL C w (((q.2.1.chunk1 (chunkN (to - q.2.2).toNat)).chunk2).astores q.2.2 (((chunkN (to - q.2.2).toNat) : Int) - 7) j)) (bL C w ((((q.2.1.chunk1 (chunkN (to - q.2.2).toNat)).chunk2).astores q.2.2 (((chunkN (to - q.2.2).toNat) : Int) - 7) j).put (iAStore 1 0 (q.2.2 + (j : Int)) (((chunkN (to - q.2.2).toNat) : Int) - 7)))) (bFam (((((q.2.1.chunk1 (chunkN (to - q.2.2).toNat)).chunk2).astores q.2.2 (((chunkN (to - q.2.2).toNat) : Int) - 7) j).put (iAStore 1 0 (q.2.2 + (j : Int)) (((chunkN (to - q.2.2).toNat) : Int) - 7)))).blocks) rfl Try.func46 (by kernel_rfl) rfl rfl rfl rfl rfl (by decide) (bL_avoid C w _) (bL_avoid C w _) z24q z7q (fun x => bFam_avoid _ x) (fun x => bFam_avoid _ x) rfl (bput_ok C w (((q.2.1.chunk1 (chunkN (to - q.2.2).toNat)).chunk2).astores q.2.2 (((chunkN (to - q.2.2).toNat) : Int) - 7) j) y hy (iAStore 1 0 (q.2.2 + (j : Int)) (((chunkN (to - q.2.2).toNat) : Int) - 7)) (Int.le_refl 0) (show (0 : Int) ≤ 1000000000 by decide) (by have := cnt_ins hy; omega))) ?_
    refine an ?_
    refine AGo.region ?_
    refine aq 54 (q_inc rfl rfl hjl (by simp only [maxLen]; omega)) ?_
    refine am 42 ?_
    refine an ?_
    exact ⟨j+1, DropK.mk' z25q (famDrop (k0 := 4) rfl z16q z18q (fun x_ => bFam_avoid _ x_)), hjl, by omega⟩
   ·
    refine acf ?_
    have hje : j = 8 := by have h := hb3; simp at h; omega
    subst hje
    refine AGo.exit ?_
    refine asr ?_
    refine am 55 ?_
    refine AOps.call 56 (hn := putR 2 _ (RH (bL C w ((((q.2.1.chunk1 (chunkN (to - q.2.2).toNat)).chunk2).astores q.2.2 (((chunkN (to - q.2.2).toNat) : Int) - 7) 8).put (iBin 4 1 1 2))) (bFam (((((q.2.1.chunk1 (chunkN (to - q.2.2).toNat)).chunk2).astores q.2.2 (((chunkN (to - q.2.2).toNat) : Int) - 7) 8).put (iBin 4 1 1 2))).blocks))) (r := .tup []) rfl rfl rfl (o_callRH 2 (bL C w (((q.2.1.chunk1 (chunkN (to - q.2.2).toNat)).chunk2).astores q.2.2 (((chunkN (to - q.2.2).toNat) : Int) - 7) 8)) (bL C w ((((q.2.1.chunk1 (chunkN (to - q.2.2).toNat)).chunk2).astores q.2.2 (((chunkN (to - q.2.2).toNat) : Int) - 7) 8).put (iBin 4 1 1 2))) (bFam (((((q.2.1.chunk1 (chunkN (to - q.2.2).toNat)).chunk2).astores q.2.2 (((chunkN (to - q.2.2).toNat) : Int) - 7) 8).put (iBin 4 1 1 2))).blocks) rfl Try.func47 (by kernel_rfl) rfl rfl rfl rfl rfl (by decide) (bL_avoid C w _) (bL_avoid C w _) z24q z7q (fun x => bFam_avoid _ x) (fun x => bFam_avoid _ x) rfl (bbin_ok C w (((q.2.1.chunk1 (chunkN (to - q.2.2).toNat)).chunk2).astores q.2.2 (((chunkN (to - q.2.2).toNat) : Int) - 7) 8) y8 hy8 (by omega) 4 1 1 2 (by omega))) ?_
    refine an ?_
    refine asr ?_
    refine am 57 ?_
    refine AOps.call 58 (hn := putR 2 _ (RH (bL C w (((((q.2.1.chunk1 (chunkN (to - q.2.2).toNat)).chunk2).astores q.2.2 (((chunkN (to - q.2.2).toNat) : Int) - 7) 8).put (iBin 4 1 1 2)).put (iBin 14 4 1 3))) (bFam ((((((q.2.1.chunk1 (chunkN (to - q.2.2).toNat)).chunk2).astores q.2.2 (((chunkN (to - q.2.2).toNat) : Int) - 7) 8).put (iBin 4 1 1 2)).put (iBin 14 4 1 3))).blocks))) (r := .tup []) rfl rfl rfl (o_callRH 2 (bL C w ((((q.2.1.chunk1 (chunkN (to - q.2.2).toNat)).chunk2).astores q.2.2 (((chunkN (to - q.2.2).toNat) : Int) - 7) 8).put (iBin 4 1 1 2))) (bL C w (((((q.2.1.chunk1 (chunkN (to - q.2.2).toNat)).chunk2).astores q.2.2 (((chunkN (to - q.2.2).toNat) : Int) - 7) 8).put (iBin 4 1 1 2)).put (iBin 14 4 1 3))) (bFam ((((((q.2.1.chunk1 (chunkN (to - q.2.2).toNat)).chunk2).astores q.2.2 (((chunkN (to - q.2.2).toNat) : Int) - 7) 8).put (iBin 4 1 1 2)).put (iBin 14 4 1 3))).blocks) rfl Try.func47 (by kernel_rfl) rfl rfl rfl rfl rfl (by decide) (bL_avoid C w _) (bL_avoid C w _) z24q z7q (fun x => bFam_avoid _ x) (fun x => bFam_avoid _ x) rfl (bbin_ok C w ((((q.2.1.chunk1 (chunkN (to - q.2.2).toNat)).chunk2).astores q.2.2 (((chunkN (to - q.2.2).toNat) : Int) - 7) 8).put (iBin 4 1 1 2)) y9 hy9 (by omega) 14 4 1 3 (by omega))) ?_
    refine an ?_
    refine asr ?_
    refine am 59 ?_
    refine AOps.call 60 (hn := putR 2 _ (RH (bL C w ((((((q.2.1.chunk1 (chunkN (to - q.2.2).toNat)).chunk2).astores q.2.2 (((chunkN (to - q.2.2).toNat) : Int) - 7) 8).put (iBin 4 1 1 2)).put (iBin 14 4 1 3)).opened)) (bFam (((((((q.2.1.chunk1 (chunkN (to - q.2.2).toNat)).chunk2).astores q.2.2 (((chunkN (to - q.2.2).toNat) : Int) - 7) 8).put (iBin 4 1 1 2)).put (iBin 14 4 1 3)).opened)).blocks))) (r := .int .i64 ((((((q.2.1.chunk1 (chunkN (to - q.2.2).toNat)).chunk2).astores q.2.2 (((chunkN (to - q.2.2).toNat) : Int) - 7) 8).put (iBin 4 1 1 2)).put (iBin 14 4 1 3)).blocks.length : Int)) rfl rfl rfl (o_callRH 2 (bL C w (((((q.2.1.chunk1 (chunkN (to - q.2.2).toNat)).chunk2).astores q.2.2 (((chunkN (to - q.2.2).toNat) : Int) - 7) 8).put (iBin 4 1 1 2)).put (iBin 14 4 1 3))) (bL C w ((((((q.2.1.chunk1 (chunkN (to - q.2.2).toNat)).chunk2).astores q.2.2 (((chunkN (to - q.2.2).toNat) : Int) - 7) 8).put (iBin 4 1 1 2)).put (iBin 14 4 1 3)).opened)) (bFam (((((((q.2.1.chunk1 (chunkN (to - q.2.2).toNat)).chunk2).astores q.2.2 (((chunkN (to - q.2.2).toNat) : Int) - 7) 8).put (iBin 4 1 1 2)).put (iBin 14 4 1 3)).opened)).blocks) rfl Try.func28 (by kernel_rfl) rfl rfl rfl rfl rfl (by decide) (bL_avoid C w _) (bL_avoid C w _) z24q z7q (fun x => bFam_avoid _ x) (fun x => bFam_avoid _ x) rfl (bopen_ok C w _ (by have := cnt_len (((((q.2.1.chunk1 (chunkN (to - q.2.2).toNat)).chunk2).astores q.2.2 (((chunkN (to - q.2.2).toNat) : Int) - 7) 8).put (iBin 4 1 1 2)).put (iBin 14 4 1 3)); omega))) ?_
    refine aa 9 ?_
    refine an ?_
    refine asr ?_
    refine am 61 ?_
    refine am 62 ?_
    refine am 63 ?_
    refine AOps.call 64 (hn := putR 2 _ (RH (bL C w ((((((q.2.1.chunk1 (chunkN (to - q.2.2).toNat)).chunk2).astores q.2.2 (((chunkN (to - q.2.2).toNat) : Int) - 7) 8).put (iBin 4 1 1 2)).put (iBin 14 4 1 3)).opened.fork 4 (q.2.1.chunk1 (chunkN (to - q.2.2).toNat)).blocks.length (((((q.2.1.chunk1 (chunkN (to - q.2.2).toNat)).chunk2).astores q.2.2 (((chunkN (to - q.2.2).toNat) : Int) - 7) 8).put (iBin 4 1 1 2)).put (iBin 14 4 1 3)).blocks.length)) (bFam (((((((q.2.1.chunk1 (chunkN (to - q.2.2).toNat)).chunk2).astores q.2.2 (((chunkN (to - q.2.2).toNat) : Int) - 7) 8).put (iBin 4 1 1 2)).put (iBin 14 4 1 3)).opened.fork 4 (q.2.1.chunk1 (chunkN (to - q.2.2).toNat)).blocks.length (((((q.2.1.chunk1 (chunkN (to - q.2.2).toNat)).chunk2).astores q.2.2 (((chunkN (to - q.2.2).toNat) : Int) - 7) 8).put (iBin 4 1 1 2)).put (iBin 14 4 1 3)).blocks.length)).blocks))) (r := .tup []) rfl rfl rfl (o_callRH 2 (bL C w ((((((q.2.1.chunk1 (chunkN (to - q.2.2).toNat)).chunk2).astores q.2.2 (((chunkN (to - q.2.2).toNat) : Int) - 7) 8).put (iBin 4 1 1 2)).put (iBin 14 4 1 3)).opened)) (bL C w ((((((q.2.1.chunk1 (chunkN (to - q.2.2).toNat)).chunk2).astores q.2.2 (((chunkN (to - q.2.2).toNat) : Int) - 7) 8).put (iBin 4 1 1 2)).put (iBin 14 4 1 3)).opened.fork 4 (q.2.1.chunk1 (chunkN (to - q.2.2).toNat)).blocks.length (((((q.2.1.chunk1 (chunkN (to - q.2.2).toNat)).chunk2).astores q.2.2 (((chunkN (to - q.2.2).toNat) : Int) - 7) 8).put (iBin 4 1 1 2)).put (iBin 14 4 1 3)).blocks.length)) (bFam (((((((q.2.1.chunk1 (chunkN (to - q.2.2).toNat)).chunk2).astores q.2.2 (((chunkN (to - q.2.2).toNat) : Int) - 7) 8).put (iBin 4 1 1 2)).put (iBin 14 4 1 3)).opened.fork 4 (q.2.1.chunk1 (chunkN (to - q.2.2).toNat)).blocks.length (((((q.2.1.chunk1 (chunkN (to - q.2.2).toNat)).chunk2).astores q.2.2 (((chunkN (to - q.2.2).toNat) : Int) - 7) 8).put (iBin 4 1 1 2)).put (iBin 14 4 1 3)).blocks.length)).blocks) rfl Try.func48 (by kernel_rfl) rfl rfl rfl rfl rfl (by decide) (bL_avoid C w _) (bL_avoid C w _) z24q z7q (fun x => bFam_avoid _ x) (fun x => bFam_avoid _ x) rfl (bfork_ok C w ((((((q.2.1.chunk1 (chunkN (to - q.2.2).toNat)).chunk2).astores q.2.2 (((chunkN (to - q.2.2).toNat) : Int) - 7) 8).put (iBin 4 1 1 2)).put (iBin 14 4 1 3)).opened) y11 hy11 4 (q.2.1.chunk1 (chunkN (to - q.2.2).toNat)).blocks.length (((((q.2.1.chunk1 (chunkN (to - q.2.2).toNat)).chunk2).astores q.2.2 (((chunkN (to - q.2.2).toNat) : Int) - 7) 8).put (iBin 4 1 1 2)).put (iBin 14 4 1 3)).blocks.length)) ?_
    refine an ?_
    refine asr ?_
    refine am 65 ?_
    refine am 66 ?_
    refine aq 67 (q_nilCheck rfl rfl rfl) ?_
    refine af 68 tok ?_
    refine AOps.w rfl rfl (o_store tok rfl rfl rfl rfl rfl rfl rfl rfl rfl (by decide) rfl z30q) ?_
    refine an ?_
    refine AGo.sub (s' := ⟨80, (eput (eput (eput (eput (eput (eput eNew 0 (.ptr 2 1 0 0)) 1 (.int .i64 q.2.2)) 2 (.int .i64 to)) 6 (.int .i64 ((chunkN (to - q.2.2).toNat) : Int))) 7 (.int .i64 ((q.2.1.chunk1 (chunkN (to - q.2.2).toNat)).blocks.length : Int))) 9 (.int .i64 ((((((q.2.1.chunk1 (chunkN (to - q.2.2).toNat)).chunk2).astores q.2.2 (((chunkN (to - q.2.2).toNat) : Int) - 7) 8).put (iBin 4 1 1 2)).put (iBin 14 4 1 3)).blocks.length : Int))), (fam (nb [.free, .free, (.row false 6 [bCell C w (q.2.1.chunk q.2.2 (chunkN (to - q.2.2).toNat))]), (.row false 5 (bRows ((q.2.1.chunk q.2.2 (chunkN (to - q.2.2).toNat))).blocks))]) (bFam ((q.2.1.chunk q.2.2 (chunkN (to - q.2.2).toNat))).blocks))⟩) (Sub.mk' z26q (famSub (k0 := 4) rfl z16q z7q (fun c h1 h2 => by rcases (by omega : c = 4 ∨ c = 5 ∨ c = 6 ∨ c = 7 ∨ c = 8 ∨ c = 9 ∨ c = 10 ∨ c = 11 ∨ c = 12 ∨ c = 13 ∨ c = 14 ∨ c = 15) with rfl | rfl | rfl | rfl | rfl | rfl | rfl | rfl | rfl | rfl | rfl | rfl <;> first | rfl | (try simp only [hputs]; repeat (first | rfl | refine hput_skip (by exact beq_false_of_ne (by omega)) ?_ | refine hrm_skip (by omega) ?_))))) ?_
    refine AGo.region ?_
    refine am 69 ?_
    refine am 70 ?_
    refine aq 71 (q_bin (r := .int .i64 (q.2.2 + ((chunkN (to - q.2.2).toNat) : Int))) rfl rfl rfl z23q) ?_
    refine aa 1 ?_
    refine an ?_
    exact ⟨(q.1 - 1, (q.2.1.chunk q.2.2 (chunkN (to - q.2.2).toNat)), q.2.2 + ((chunkN (to - q.2.2).toNat) : Int)), DropK.mk' z25q (famDrop (k0 := 4) rfl z16q z18q (fun x_ => bFam_avoid _ x_)), hN, (hQ.i.next hn64).2⟩
  ·
   refine acf ?_
   have hn64 : ¬ 64 < (to - q.2.2).toNat := by have h := hb2; simp at h; omega
   have hlast := hQ.i.last hn64
   have hc0 := hQ.cnt
   have hqa := hQ.a0
   have hqt := hQ.a1
   refine AGo.exit ?_
   refine AGo.block ?_
   refine AGo.loopK (γ := Nat) (kf 4) (fun j => ⟨80, (eput (eput (eput eNew 0 (.ptr 2 1 0 0)) 1 (.int .i64 (q.2.2 + (j : Int)))) 2 (.int .i64 to)), (fam (nb [.free, .free, (.row false 6 [bCell C w (q.2.1.zeros q.2.2 j)]), (.row false 5 (bRows ((q.2.1.zeros q.2.2 j)).blocks))]) (bFam ((q.2.1.zeros q.2.2 j)).blocks))⟩) (fun j => q.2.2 + (j : Int) ≤ to) (fun j => (to - (q.2.2 + (j : Int))).toNat) 0 (Sub.mk' (by repeat (first | exact ESub.new _ | refine ESub.put ?_ (by first | rfl | exact congrArg (fun n => some (AV.int .i64 n)) (by omega)))) (famSub (k0 := 4) rfl z16q z18q (fun c h1 h2 => by rcases (by omega : c = 4 ∨ c = 5 ∨ c = 6 ∨ c = 7 ∨ c = 8 ∨ c = 9 ∨ c = 10 ∨ c = 11 ∨ c = 12 ∨ c = 13 ∨ c = 14 ∨ c = 15) with rfl | rfl | rfl | rfl | rfl | rfl | rfl | rfl | rfl | rfl | rfl | rfl <;> first | rfl | (try simp only [hputs]; repeat (first | rfl | refine hput_skip (by exact beq_false_of_ne (by omega)) ?_ | refine hrm_skip (by omega) ?_))))) (by omega) (fun g b hb => famFree (k0 := 4) rfl hb) ?_
   intro j hj
   refine AGo.seq ?_
   refine asr ?_
   refine am 72 ?_
   refine am 73 ?_
   refine aqb ?_
   refine an ?_
   refine AGo.split 74 rfl (fun hb4 => ?_) (fun hb4 => ?_)
   ·
    refine act ?_
    have hjt : q.2.2 + (j : Int) < to := by have h := hb4; simpa using h
    obtain ⟨z, hz⟩ := cur_zeros hQ.cur q.2.2 j
    have cz := cnt_zeros hQ.cur q.2.2 j
    refine AGo.skip ?_
    refine AGo.seq ?_
    refine AGo.block ?_
    refine AGo.region ?_
    refine am 77 ?_
    refine am 78 ?_
    refine AOps.call 79 (hn := putR 2 _ (RH (bL C w ((q.2.1.zeros q.2.2 j).put (iStore (q.2.2 + (j : Int)) 0))) (bFam (((q.2.1.zeros q.2.2 j).put (iStore (q.2.2 + (j : Int)) 0))).blocks))) (r := .tup []) rfl rfl rfl (o_callRH 2 (bL C w (q.2.1.zeros q.2.2 j)) (bL C w ((q.2.1.zeros q.2.2 j).put (iStore (q.2.2 + (j : Int)) 0))) (bFam (((q.2.1.zeros q.2.2 j).put (iStore (q.2.2 + (j : Int)) 0))).blocks) rfl Try.func49 (by kernel_rfl) rfl rfl rfl rfl rfl (by decide) (bL_avoid C w _) (bL_avoid C w _) z24q z7q (fun x => bFam_avoid _ x) (fun x => bFam_avoid _ x) rfl (bstore_ok C w (q.2.1.zeros q.2.2 j) z hz (by omega) (q.2.2 + (j : Int)) 0)) ?_
    refine an ?_
    refine AGo.region ?_
    refine am 75 ?_
    refine aq 76 (q_bin (r := .int .i64 (q.2.2 + ((j + 1 : Nat) : Int))) rfl rfl rfl z21q) ?_
    refine aa 1 ?_
    refine an ?_
    exact ⟨j+1, DropK.mk' z25q (famDrop (k0 := 4) rfl z16q z18q (fun x_ => bFam_avoid _ x_)), (by omega), by omega⟩
   ·
    refine acf ?_
    have hjt : j = (to - q.2.2).toNat := by have h := hb4; simp at h; omega
    subst hjt
    rw [← hlast]
    refine AGo.exit ?_
    exact ⟨[], trivial, rfl, (rh_sub rfl (by decide) z24q z7q)⟩
set_option maxHeartbeats 4000000 in
set_option maxRecDepth 100000 in
theorem buildOf_ok (C : Core) (hC : C.Ok) (hr : CoreB C) (hok : ∀ (i : Nat) g, C.funcs[i]? = some g → CS.okL C i g.word g.body) (hp : ∀ g ∈ C.funcs, CS.partsL g.body ≤ 1000000) : APure Try.prog 14 [.agg C.cells] (fun r => r = .agg C.build.cells) := by
 have hn1 := hr.n1
 have hw0 := hr.w0
 have hw1 := hr.w1
 have hml : (C.funcs.map CFn.cells).length = C.funcs.length := List.length_map _
 refine APure.of_body (n := 84) tok Try.func14 rfl rfl ?_
 refine asr ?_
 refine ax 1 (o_box (sz := 2) 0 rfl rfl rfl rfl (Nat.zero_lt_succ _) rfl) ?_
 refine ax 2 (o_alloc tok 1 rfl rfl rfl rfl (Nat.zero_lt_succ _) rfl) ?_
 refine an ?_
 refine asr ?_
 refine af 9 tok ?_
 refine al 10 tok ?_
 refine aq 11 (q_build tok rfl rfl rfl rfl rfl (by decide) rfl rfl rfl) ?_
 refine ax 3 (o_alloc tok 4 rfl rfl rfl rfl (Nat.zero_lt_succ _) rfl) ?_
 refine AOps.w rfl rfl (o_store tok rfl rfl rfl rfl rfl rfl rfl rfl rfl (by decide) rfl z30q) ?_
 refine an ?_
 refine AGo.seq ?_
 refine asr ?_
 refine af 12 tok ?_
 refine al 13 tok ?_
 refine aq 14 (q_len tok rfl rfl rfl rfl rfl) ?_
 refine am 15 ?_
 refine an ?_
 refine AGo.block ?_
 refine AGo.loopK (γ := Nat) (kf 5) (fun k => ⟨84, (eput (eput (eput (eput (eput (eput eNew 1 (.ptr 0 1 0 0)) 2 (.ptr 1 1 0 0)) 3 (.ptr 4 1 0 0)) 13 (.lst false (C.funcs.map CFn.cells))) 14 (.int .i64 ((C.funcs.map CFn.cells).length : Int))) 15 (.int .i64 (k : Int))), (fam (nb [(.row false 2 [C.cells]), (.row false 2 [[.int .i64 0, .nil]]), .free, .free, (.row false 2 [[.int .i64 (mW C k), .nil]])]) fFree)⟩) (fun k => k ≤ C.funcs.length) (fun k => C.funcs.length - k) 0 (Sub.mk' z26q (famSub (k0 := 5) rfl (by repeat (first | exact trivial | refine ⟨⟨by rfl, by first | rfl | exact outerC_avoid _ _ _ _⟩, ?_⟩)) (fun x_ => by (try simp only [hputs]); repeat (first | rfl | exact fam_hi _ _ _ | refine hput_skip (by exact beq_false_of_ne (by omega)) ?_)) (fun c h1 h2 => by rcases (by omega : c = 5 ∨ c = 6 ∨ c = 7 ∨ c = 8 ∨ c = 9 ∨ c = 10 ∨ c = 11 ∨ c = 12 ∨ c = 13 ∨ c = 14 ∨ c = 15) with rfl | rfl | rfl | rfl | rfl | rfl | rfl | rfl | rfl | rfl | rfl <;> first | rfl | (try simp only [hputs]; repeat (first | rfl | refine hput_skip (by exact beq_false_of_ne (by omega)) ?_ | refine hrm_skip (by omega) ?_))))) (Nat.zero_le _) (fun g b hb => famFree (k0 := 5) rfl hb) ?_
 intro k hk
 refine asr ?_
 refine aqb ?_
 refine an ?_
 refine AGo.seq ?_
 refine AGo.split 16 rfl (fun hb1 => ?_) (fun hb1 => ?_)
 ·
  refine act ?_
  have hkl : k < C.funcs.length := lt_of_idx hb1
  obtain ⟨g, hg⟩ := get_of_lt hkl
  refine AGo.skip ?_
  refine AGo.seq ?_
  refine AGo.block ?_
  refine asr ?_
  refine aq 17 (q_index_lst tok rfl rfl rfl rfl rfl rfl (Int.natCast_nonneg _) (idx_map (by assumption)) rfl) ?_
  refine al 18 tok ?_
  refine ax 5 (o_alloc tok 6 rfl rfl rfl rfl (Nat.zero_lt_succ _) rfl) ?_
  refine AOps.w rfl rfl (o_store tok rfl rfl rfl rfl rfl rfl rfl rfl rfl (by decide) rfl z30q) ?_
  refine an ?_
  refine asr ?_
  refine af 19 tok ?_
  refine al 20 tok ?_
  refine an ?_
  refine AGo.split 20 rfl (fun hb2 => ?_) (fun hb2 => ?_)
  ·
   refine act ?_
   have hmw := mW_yes hg hb2
   refine AGo.region ?_
   refine af 21 tok ?_
   refine al 22 tok ?_
   refine aq 23 (q_bin (r := .int .i64 (C.words + 1)) rfl rfl rfl z23q) ?_
   refine af 24 tok ?_
   refine AOps.w rfl rfl (o_store tok rfl rfl rfl rfl rfl rfl rfl rfl rfl (by decide) rfl z30q) ?_
   refine an ?_
   refine AGo.region ?_
   refine aq 25 (q_inc rfl rfl hkl (by simp only [maxLen]; omega)) ?_
   refine am 15 ?_
   refine an ?_
   exact ⟨k+1, DropK.mk' z25q (famDrop (k0 := 5) rfl (by repeat (first | exact trivial | refine ⟨⟨by first | rfl | (rw [hmw]; rfl), by first | rfl | exact outerC_avoid _ _ _ _⟩, ?_⟩)) z14q (fun _ => rfl)), hkl, by omega⟩
  ·
   refine acf ?_
   have hmw := mW_no hg hb2
   refine AGo.skip ?_
   refine AGo.region ?_
   refine aq 25 (q_inc rfl rfl hkl (by simp only [maxLen]; omega)) ?_
   refine am 15 ?_
   refine an ?_
   exact ⟨k+1, DropK.mk' z25q (famDrop (k0 := 5) rfl (by repeat (first | exact trivial | refine ⟨⟨by first | rfl | (rw [hmw]; rfl), by first | rfl | exact outerC_avoid _ _ _ _⟩, ?_⟩)) z14q (fun _ => rfl)), hkl, by omega⟩
 ·
  refine acf ?_
  have hge := ge_of_idx hb1
  have hmw := mW_all hge
  refine AGo.exit ?_
  refine AGo.seq ?_
  refine AGo.seq ?_
  rw [hmw]
  refine AGo.ghost (Ghost.weakRowF 4 (es' := [[.int .i64 C.m, slA 5 []]]) rfl rfl (wk_made _ 5)) ?_
  refine AGo.region ?_
  refine af 26 tok ?_
  refine al 27 tok ?_
  refine aq 28 (q_len tok rfl rfl rfl rfl rfl) ?_
  refine am 29 ?_
  refine an ?_
  refine AGo.block ?_
  refine AGo.loopK (γ := Nat) kB (fun k => ⟨84, (eput (eput (eput (eput (eput (eput eNew 1 (.ptr 0 1 0 0)) 2 (.ptr 1 1 0 0)) 3 (.ptr 4 1 0 0)) 27 (.lst false (C.funcs.map CFn.cells))) 28 (.int .i64 ((C.funcs.map CFn.cells).length : Int))) 29 (.int .i64 (k : Int))), (hB (.row false 2 [C.cells]) (.row false 2 [[.int .i64 0, .nil]]) (.row false 2 [[.int .i64 C.m, slA 5 (bT C k)]]) (slO 2 (bT C k)))⟩) (fun k => k ≤ C.funcs.length) (fun k => C.funcs.length - k) 0 (Sub.mk' z26q (famSub (k0 := 6) rfl (by repeat (first | exact trivial | refine ⟨⟨by first | rfl | (rw [mW_zero]; rfl) | (rw [hmw]; rfl), by first | rfl | exact rowF_avoid rfl | exact slO_avoid _ _⟩, ?_⟩)) z14q (fun c h1 h2 => by rcases (by omega : c = 6 ∨ c = 7 ∨ c = 8 ∨ c = 9 ∨ c = 10 ∨ c = 11 ∨ c = 12 ∨ c = 13 ∨ c = 14 ∨ c = 15) with rfl | rfl | rfl | rfl | rfl | rfl | rfl | rfl | rfl | rfl <;> first | rfl | (try simp only [hputs]; repeat (first | rfl | refine hput_skip (by exact beq_false_of_ne (by omega)) ?_ | refine hrm_skip (by omega) ?_))))) (Nat.zero_le _) (fun k => hB_free _ _ _ _) ?_
  intro k hk
  refine asr ?_
  refine aqb ?_
  refine an ?_
  refine AGo.seq ?_
  refine AGo.split 30 rfl (fun hb3 => ?_) (fun hb3 => ?_)
  ·
   refine act ?_
   have hkl : k < C.funcs.length := lt_of_idx hb3
   obtain ⟨g, hg⟩ := get_of_lt hkl
   have hgm := List.mem_of_getElem? hg
   have hgk := hC.funcs g hgm
   have hgo := hok k g hg
   have hgp := hp g hgm
   obtain ⟨f1, f2, f3, f4, f5⟩ := hr.fn g hgm
   refine AGo.skip ?_
   refine AGo.seq ?_
   refine AGo.block ?_
   refine asr ?_
   refine am 31 ?_
   refine aq 32 (q_index_lst tok rfl rfl rfl rfl rfl rfl (Int.natCast_nonneg _) (idx_map (by assumption)) rfl) ?_
   refine al 33 tok ?_
   refine ax 7 (o_alloc tok 6 rfl rfl rfl rfl (Nat.zero_lt_succ _) rfl) ?_
   refine aa 6 ?_
   refine AOps.w rfl rfl (o_store tok rfl rfl rfl rfl rfl rfl rfl rfl rfl (by decide) rfl z30q) ?_
   refine an ?_
   refine asr ?_
   refine af 34 tok ?_
   refine al 35 tok ?_
   refine af 36 tok ?_
   refine al 37 tok ?_
   refine af 38 tok ?_
   refine al 39 tok ?_
   refine aq 40 (q_build tok rfl rfl rfl rfl rfl (by decide) rfl rfl rfl) ?_
   refine ax 41 (o_box (sz := 6) 2 rfl rfl rfl rfl (Nat.zero_lt_succ _) rfl) ?_
   refine aa 8 ?_
   refine an ?_
   refine AGo.seq ?_
   refine AGo.ghost (.dryCell 2 0 4 3 5 false rfl rfl rfl rfl rfl (by decide)) ?_
   refine AGo.region ?_
   refine am 42 ?_
   refine AOps.call 43 (hn := putR 2 _ (RH (bL C g.word bd0) (bFam (bd0).blocks))) (r := .int .i64 0) rfl rfl rfl (o_callRH 2 (bL C g.word (⟨0, [], 0⟩ : Bd)) (bL C g.word bd0) (bFam (bd0).blocks) rfl Try.func28 (by kernel_rfl) rfl rfl rfl rfl rfl (by decide) (bL_avoid C g.word _) (bL_avoid C g.word _) z24q z7q (fun x => bFam_avoid _ x) (fun x => bFam_avoid _ x) rfl (bopen_ok C g.word (⟨0, [], 0⟩ : Bd) (by decide))) ?_
   refine an ?_
   refine AGo.seq ?_
   refine asr ?_
   refine am 44 ?_
   refine af 45 tok ?_
   refine al 46 tok ?_
   refine aq 47 (q_len tok rfl rfl rfl rfl rfl) ?_
   refine aq 48 (q_bin (r := .int .i64 (((C.funcs.map CFn.cells).length : Int) - 1)) rfl rfl rfl z23q) ?_
   refine aqb ?_
   refine an ?_
   refine AGo.join (γ := Bd) (fun q => ⟨84, (eput (eput (eput (eput (eput (eput (eput (eput (eput eNew 1 (.ptr 0 1 0 0)) 2 (.ptr 1 1 0 0)) 3 (.ptr 4 1 0 0)) 6 (.int .i64 (k : Int))) 7 (.ptr 6 1 0 0)) 8 (.ptr 2 1 0 0)) 27 (.lst false (C.funcs.map CFn.cells))) 28 (.int .i64 ((C.funcs.map CFn.cells).length : Int))) 29 (.int .i64 (k : Int))), (fam (nb [(.row false 2 [C.cells]), (.row false 2 [[.int .i64 0, .nil]]), (.row false 6 [bCell C g.word q]), (.row false 5 (bRows (q).blocks)), (.row false 2 [[.int .i64 C.m, slA 5 (bT C k)]]), (slO 2 (bT C k)), (.row false 5 [g.cells])]) (bFam (q).blocks))⟩) (fun q => q = fnStart C g (k + 1 == C.funcs.length)) ?_ ?_
   ·
    refine AGo.split 49 rfl (fun hb4 => ?_) (fun hb4 => ?_)
    ·
     refine act ?_
     have hlast : (k + 1 == C.funcs.length) = false := by have h := hb4; simp at h ⊢; omega
     refine AGo.region ?_
     refine am 50 ?_
     refine af 51 tok ?_
     refine al 52 tok ?_
     refine af 53 tok ?_
     refine al 54 tok ?_
     refine aq 55 (q_bin (r := .int .i64 (g.first + g.params)) rfl rfl rfl z23q) ?_
     refine af 56 tok ?_
     refine al 57 tok ?_
     refine af 58 tok ?_
     refine al 59 tok ?_
     refine aq 60 (q_bin (r := .int .i64 (g.first + g.slots)) rfl rfl rfl z23q) ?_
     refine AOps.call 61 (hn := putR 2 _ (RH (bL C g.word (bd0.nought (g.first + g.params) (g.first + g.slots - (g.first + g.params)).toNat)) (bFam ((bd0.nought (g.first + g.params) (g.first + g.slots - (g.first + g.params)).toNat)).blocks))) (r := .tup []) rfl rfl rfl (o_callRH 2 (bL C g.word bd0) (bL C g.word (bd0.nought (g.first + g.params) (g.first + g.slots - (g.first + g.params)).toNat)) (bFam ((bd0.nought (g.first + g.params) (g.first + g.slots - (g.first + g.params)).toNat)).blocks) rfl Try.func29 (by kernel_rfl) rfl rfl rfl rfl rfl (by decide) (bL_avoid C g.word _) (bL_avoid C g.word _) z24q z7q (fun x => bFam_avoid _ x) (fun x => bFam_avoid _ x) rfl (bnought_ok C g.word bd0 (g.first + g.params) (g.first + g.slots) cur0 (by omega) (by omega) (by omega) (by omega) (by rw [cnt0]; omega))) ?_
     refine an ?_
     exact ⟨(bd0.nought (g.first + g.params) (g.first + g.slots - (g.first + g.params)).toNat), Sub.mk' z26q (famSub (k0 := 7) rfl (by repeat (first | exact trivial | refine ⟨⟨by first | rfl | exact putR_yes rfl, by first | rfl | exact bRows_avoid (fun x_ => kf_hi 7 x_) _ | exact rowF_avoid rfl | exact slO_avoid _ _⟩, ?_⟩)) z7q (fun c h1 h2 => by rcases (by omega : c = 7 ∨ c = 8 ∨ c = 9 ∨ c = 10 ∨ c = 11 ∨ c = 12 ∨ c = 13 ∨ c = 14 ∨ c = 15) with rfl | rfl | rfl | rfl | rfl | rfl | rfl | rfl | rfl <;> first | rfl | (try simp only [hputs]; repeat (first | rfl | refine hput_skip (by exact beq_false_of_ne (by omega)) ?_ | refine hrm_skip (by omega) ?_)))), (by unfold fnStart; rw [hlast]; show bd0.nought _ _ = bd0.nought _ _; congr 2; omega)⟩
    ·
     refine acf ?_
     have hlast : (k + 1 == C.funcs.length) = true := by have h := hb4; simp at h ⊢; omega
     refine AGo.skip ?_
     exact ⟨bd0, Sub.mk' z26q (famSub (k0 := 7) rfl (by repeat (first | exact trivial | refine ⟨⟨by first | rfl | exact putR_yes rfl, by first | rfl | exact bRows_avoid (fun x_ => kf_hi 7 x_) _ | exact rowF_avoid rfl | exact slO_avoid _ _⟩, ?_⟩)) z7q (fun c h1 h2 => by rcases (by omega : c = 7 ∨ c = 8 ∨ c = 9 ∨ c = 10 ∨ c = 11 ∨ c = 12 ∨ c = 13 ∨ c = 14 ∨ c = 15) with rfl | rfl | rfl | rfl | rfl | rfl | rfl | rfl | rfl <;> first | rfl | (try simp only [hputs]; repeat (first | rfl | refine hput_skip (by exact beq_false_of_ne (by omega)) ?_ | refine hrm_skip (by omega) ?_)))), (by unfold fnStart; rw [hlast]; rfl)⟩
   intro q hq
   have hqp : Pl q := by rw [hq]; exact fnStart_pl _ _ _
   have hqc : q.cnt ≤ 2 + (g.slots - g.params).toNat := by rw [hq]; exact fnStart_cnt _ _ _
   have hcs := cnt_stmts (C := C) (w := g.word) (l := g.body) (fun e _ => cnt_stmt e.parts e (Nat.le_refl _)) q
   obtain ⟨z, hz⟩ := (stmts_pl hgo hqp).cur
   have hfb : fnBuild C g (k + 1 == C.funcs.length) = ⟨((CS.buildL C g.word g.body q).leave C g.word).regs, ((CS.buildL C g.word g.body q).leave C g.word).blocks⟩ := by rw [hq]; rfl
   have hbt := bT_next hg
   rw [hfb] at hbt
   refine asr ?_
   refine am 62 ?_
   refine af 63 tok ?_
   refine al 64 tok ?_
   refine AOps.call 65 (hn := putR 2 _ (RH (bL C g.word (CS.buildL C g.word g.body q)) (bFam ((CS.buildL C g.word g.body q)).blocks))) (r := .tup []) rfl rfl rfl (o_callRH 2 (bL C g.word q) (bL C g.word (CS.buildL C g.word g.body q)) (bFam ((CS.buildL C g.word g.body q)).blocks) rfl Try.func30 (by kernel_rfl) rfl rfl rfl rfl rfl (by decide) (bL_avoid C g.word _) (bL_avoid C g.word _) z24q z7q (fun x => bFam_avoid _ x) (fun x => bFam_avoid _ x) rfl (bstmts_of C g.word k g.body (fun x hx b hP hc => bstmt_ok C g.word k hr x.parts x (Nat.le_refl _) (sokL_mem hgo hx) (hgk.body x hx) b hP hc) hgo hgk.len q hqp (by omega))) ?_
   refine an ?_
   refine asr ?_
   refine am 66 ?_
   refine AOps.call 67 (hn := putR 2 _ (RH (bL C g.word ((CS.buildL C g.word g.body q).leave C g.word)) (bFam (((CS.buildL C g.word g.body q).leave C g.word)).blocks))) (r := .tup []) rfl rfl rfl (o_callRH 2 (bL C g.word (CS.buildL C g.word g.body q)) (bL C g.word ((CS.buildL C g.word g.body q).leave C g.word)) (bFam (((CS.buildL C g.word g.body q).leave C g.word)).blocks) rfl Try.func31 (by kernel_rfl) rfl rfl rfl rfl rfl (by decide) (bL_avoid C g.word _) (bL_avoid C g.word _) z24q z7q (fun x => bFam_avoid _ x) (fun x => bFam_avoid _ x) rfl (bleave_ok C g.word (CS.buildL C g.word g.body q) z hz (by omega))) ?_
   refine an ?_
   refine AGo.ghost (Ghost.endBd C g.word ((CS.buildL C g.word g.body q).leave C g.word) (putR_yes rfl) (putR_yes rfl) (fun x_ => (putR_hi _ _ _ x_).trans (fam_hi _ _ _))) ?_
   refine AGo.draw mix ?_
   refine df 68 tok ?_
   refine dl 69 tok ?_
   refine dm 70 ?_
   refine dq 71 (q_nilCheck rfl rfl rfl) ?_
   refine df 72 tok ?_
   refine dl 73 tok ?_
   refine dm 74 ?_
   refine dq 75 (q_nilCheck rfl rfl rfl) ?_
   refine df 76 tok ?_
   refine dl 77 tok ?_
   refine dq 78 (q_build tok rfl rfl rfl rfl rfl (by decide) rfl rfl rfl) ?_
   refine dx 79 (o_lit' tok rfl rfl rfl rfl rfl rfl (by decide) rfl rfl rfl rfl rfl rfl) ?_
   refine dx 80 (o_append1J tok (b := 5) (es := bT C k) rfl rfl rfl rfl rfl rfl rfl rfl rfl rfl rfl (Nat.zero_lt_succ _) (bT_len2 C k) (bT_pure C k) rfl rfl (by have := bT_len C k; show (_ + 1) * 32 ≤ _; omega) (by have := bT_len C k; simp only [maxLen]; omega)) ?_
   refine df 81 tok ?_
   refine DOps.w rfl rfl (o_store1 tok rfl rfl rfl rfl rfl rfl rfl rfl rfl (slA_cells _ _) (by decide) (slA_cell1 _ _) (by intro h; cases h)) ?_
   refine DOps.nil (by kernel_rfl) ?_
   refine AGo.region ?_
   refine aq 82 (q_inc rfl rfl hkl (by simp only [maxLen]; omega)) ?_
   refine am 29 ?_
   refine an ?_
   exact ⟨k+1, DropK.mk' z25q (hB_drop z11q z11q (by first | exact congrArg (fun es => some (AObj.row false 2 [[.int .i64 C.m, slA 5 es]])) hbt | ((try simp only [hputs]); repeat (first | rfl | exact hput_same _ _ _ | refine hput_skip (by exact beq_false_of_ne (by omega)) ?_ | refine hrm_skip (by omega) ?_ | refine (famW_out _ (fun i_ _ => by first | omega | (dsimp only; omega))).trans ?_))) (by first | exact congrArg (fun es => some (slO 2 es)) hbt | ((try simp only [hputs]); repeat (first | rfl | exact hput_same _ _ _ | refine hput_skip (by exact beq_false_of_ne (by omega)) ?_ | refine hrm_skip (by omega) ?_ | refine (famW_out _ (fun i_ _ => by first | omega | (dsimp only; omega))).trans ?_))) rfl rfl (rowF_avoid rfl) (slO_avoid _ _)), hkl, by omega⟩
  ·
   refine acf ?_
   have hge := ge_of_idx hb3
   refine AGo.exit ?_
   refine AGo.seq ?_
   refine AGo.ghost (.endCell 4 1 5 rfl rfl rfl (by decide)) ?_
   rw [bT_all hge]
   refine AGo.region ?_
   refine al 83 tok ?_
   refine AOps.w rfl rfl (o_store tok rfl rfl rfl rfl rfl rfl rfl rfl rfl (by decide) rfl z30q) ?_
   refine an ?_
   refine AGo.ret ?_
   refine ⟨[_], ⟨⟨_, _, _, _, rfl, rfl, .ptr _ _ _ _ _ _ _ _ rfl rfl rfl, rfl⟩, trivial⟩, ?_, rfl⟩
   rfl
set_option maxRecDepth 100000 in
theorem bits_ok0 (a : Nat) (ha : a < 4294967296) : ACall Try.prog 105 [.int .u32 (a : Int)] (hput hNew 0 .free) (fun r h' => r = .ref 0 32 0 32 ∧ HSub (hput hNone 0 (.row true 1 (natCells (bitsN a 32)))) h') := by
 refine ACall.of_body (n := 18) tok Try.func105 rfl rfl ?_
 refine asr ?_
 refine aa 2 ?_
 refine an ?_
 refine asr ?_
 refine aa 3 ?_
 refine an ?_
 refine AGo.seq ?_
 refine AGo.seq ?_
 refine AGo.ghost (.dry 3 0 1 true rfl rfl rfl (by decide)) ?_
 refine AGo.region ?_
 refine aa 4 ?_
 refine an ?_
 refine AGo.block ?_
 refine AGo.loopI (γ := Nat) (fun k => ⟨18, (eput (eput (eput eNew 0 (.int .u32 ((a / 2 ^ k : Nat) : Int))) 3 (.ref 0 k 0 k)) 4 (.int .i64 (k : Int))), (hput hNone 0 (.row true 1 (natCells (bitsN a k))))⟩) (fun k => k ≤ 32) (fun k => 32 - k) 0 (Sub.mk' (by repeat (first | exact ESub.new _ | refine ESub.put ?_ (by first | rfl | exact congrArg (fun (n : Nat) => some (AV.int .u32 (n : Int))) (by simp)))) z9q) (Nat.zero_le _) ?_
 intro k hk
 refine AGo.seq ?_
 refine asr ?_
 refine am 5 ?_
 refine aqb ?_
 refine an ?_
 refine AGo.split 6 rfl (fun hb1 => ?_) (fun hb1 => ?_)
 ·
  refine act ?_
  have hkl : k < 32 := by have h := hb1; simp at h; omega
  have hle : a / 2 ^ k ≤ a := Nat.div_le_self _ _
  refine AGo.skip ?_
  refine AGo.seq ?_
  refine AGo.block ?_
  refine asr ?_
  refine am 9 ?_
  refine am 10 ?_
  refine aq 11 (q_bin (r := .int .u32 ((a / 2 ^ k % 2 : Nat) : Int)) rfl rfl rfl (ebin_rem (a := a / 2 ^ k) (b := 2) (by decide))) ?_
  refine aq 12 (q_convSame tok rfl rfl rfl rfl rfl (wrapN_i64 (by omega))) ?_
  refine ax 13 (o_lit' tok rfl rfl rfl rfl rfl rfl (by decide) rfl rfl rfl rfl rfl rfl) ?_
  refine ax 14 (o_append tok (n := k) (m := 1) rfl rfl rfl rfl rfl rfl rfl rfl rfl (by simp [natCells_len, bitsN_length]) rfl rfl (Nat.zero_lt_succ _) (.lst _ _) (by intro cs h; simp [partVals] at h; subst h; rfl) (fun _ cs h => by simp [partVals] at h; subst h; rfl) rfl (by simp [natCells_len, bitsN_length, partVals]; show _ * 8 ≤ _; omega) (by simp [natCells_len, bitsN_length, partVals]; simp only [maxLen]; omega)) ?_
  refine aa 3 ?_
  refine an ?_
  refine AGo.region ?_
  refine am 15 ?_
  refine aq 16 (q_bin (r := .int .u32 ((a / 2 ^ k / 2 : Nat) : Int)) rfl rfl rfl (ebin_quo (a := a / 2 ^ k) (b := 2) (by decide) (wrapN_u32 (by omega)))) ?_
  refine aa 0 ?_
  refine an ?_
  refine AGo.region ?_
  refine am 7 ?_
  refine aq 8 (q_inc rfl rfl hkl (show 32 ≤ maxLen by decide)) ?_
  refine aa 4 ?_
  refine an ?_
  exact ⟨k+1, Sub.mk' (by repeat (first | exact ESub.new _ | refine ESub.put ?_ (by first | rfl | exact congrArg (fun (n : Nat) => some (AV.int .u32 (n : Int))) (by rw [Nat.div_div_eq_div_mul, Nat.pow_succ])))) z5q, hkl, by omega⟩
 ·
  refine acf ?_
  have hge : ¬ k < 32 := by have h := hb1; simp at h; omega
  refine AGo.exit ?_
  refine AGo.seq ?_
  obtain rfl : k = 32 := by omega
  refine AGo.region ?_
  refine am 17 ?_
  refine aa 2 ?_
  refine an ?_
  refine AGo.ret ?_
  refine ⟨[_], ⟨rfl, trivial⟩, rfl, HSub.put (HSub.none _) rfl⟩
set_option maxRecDepth 100000 in
theorem bits_ok1 (a : Nat) (ha : a < 4294967296) : ACall Try.prog 105 [.int .u32 (a : Int)] (hput hNew 1 .free) (fun r h' => r = .ref 1 32 0 32 ∧ HSub (hput hNone 1 (.row true 1 (natCells (bitsN a 32)))) h') := by
 refine ACall.of_body (n := 18) tok Try.func105 rfl rfl ?_
 refine asr ?_
 refine aa 2 ?_
 refine an ?_
 refine asr ?_
 refine aa 3 ?_
 refine an ?_
 refine AGo.seq ?_
 refine AGo.seq ?_
 refine AGo.ghost (.dry 3 1 1 true rfl rfl rfl (by decide)) ?_
 refine AGo.region ?_
 refine aa 4 ?_
 refine an ?_
 refine AGo.block ?_
 refine AGo.loopI (γ := Nat) (fun k => ⟨18, (eput (eput (eput eNew 0 (.int .u32 ((a / 2 ^ k : Nat) : Int))) 3 (.ref 1 k 0 k)) 4 (.int .i64 (k : Int))), (hput hNone 1 (.row true 1 (natCells (bitsN a k))))⟩) (fun k => k ≤ 32) (fun k => 32 - k) 0 (Sub.mk' (by repeat (first | exact ESub.new _ | refine ESub.put ?_ (by first | rfl | exact congrArg (fun (n : Nat) => some (AV.int .u32 (n : Int))) (by simp)))) z9q) (Nat.zero_le _) ?_
 intro k hk
 refine AGo.seq ?_
 refine asr ?_
 refine am 5 ?_
 refine aqb ?_
 refine an ?_
 refine AGo.split 6 rfl (fun hb1 => ?_) (fun hb1 => ?_)
 ·
  refine act ?_
  have hkl : k < 32 := by have h := hb1; simp at h; omega
  have hle : a / 2 ^ k ≤ a := Nat.div_le_self _ _
  refine AGo.skip ?_
  refine AGo.seq ?_
  refine AGo.block ?_
  refine asr ?_
  refine am 9 ?_
  refine am 10 ?_
  refine aq 11 (q_bin (r := .int .u32 ((a / 2 ^ k % 2 : Nat) : Int)) rfl rfl rfl (ebin_rem (a := a / 2 ^ k) (b := 2) (by decide))) ?_
  refine aq 12 (q_convSame tok rfl rfl rfl rfl rfl (wrapN_i64 (by omega))) ?_
  refine ax 13 (o_lit' tok rfl rfl rfl rfl rfl rfl (by decide) rfl rfl rfl rfl rfl rfl) ?_
  refine ax 14 (o_append tok (n := k) (m := 1) rfl rfl rfl rfl rfl rfl rfl rfl rfl (by simp [natCells_len, bitsN_length]) rfl rfl (Nat.zero_lt_succ _) (.lst _ _) (by intro cs h; simp [partVals] at h; subst h; rfl) (fun _ cs h => by simp [partVals] at h; subst h; rfl) rfl (by simp [natCells_len, bitsN_length, partVals]; show _ * 8 ≤ _; omega) (by simp [natCells_len, bitsN_length, partVals]; simp only [maxLen]; omega)) ?_
  refine aa 3 ?_
  refine an ?_
  refine AGo.region ?_
  refine am 15 ?_
  refine aq 16 (q_bin (r := .int .u32 ((a / 2 ^ k / 2 : Nat) : Int)) rfl rfl rfl (ebin_quo (a := a / 2 ^ k) (b := 2) (by decide) (wrapN_u32 (by omega)))) ?_
  refine aa 0 ?_
  refine an ?_
  refine AGo.region ?_
  refine am 7 ?_
  refine aq 8 (q_inc rfl rfl hkl (show 32 ≤ maxLen by decide)) ?_
  refine aa 4 ?_
  refine an ?_
  exact ⟨k+1, Sub.mk' (by repeat (first | exact ESub.new _ | refine ESub.put ?_ (by first | rfl | exact congrArg (fun (n : Nat) => some (AV.int .u32 (n : Int))) (by rw [Nat.div_div_eq_div_mul, Nat.pow_succ])))) z5q, hkl, by omega⟩
 ·
  refine acf ?_
  have hge : ¬ k < 32 := by have h := hb1; simp at h; omega
  refine AGo.exit ?_
  refine AGo.seq ?_
  obtain rfl : k = 32 := by omega
  refine AGo.region ?_
  refine am 17 ?_
  refine aa 2 ?_
  refine an ?_
  refine AGo.ret ?_
  refine ⟨[_], ⟨rfl, trivial⟩, rfl, HSub.put (HSub.none _) rfl⟩
set_option maxRecDepth 100000 in
theorem bitsOf_ok (l : List Nat) (hl : l.length = 32) (hb : ∀ b ∈ l, b < 2) : APure Try.prog 106 [.lst false (natCells l)] (fun r => r = .int .u32 (valB l : Int)) := by
 refine APure.of_body (n := 23) tok Try.func106 rfl rfl ?_
 refine asr ?_
 refine aa 2 ?_
 refine an ?_
 refine asr ?_
 refine aa 3 ?_
 refine an ?_
 refine AGo.seq ?_
 refine asr ?_
 refine am 5 ?_
 refine aq 6 (q_len tok rfl rfl rfl rfl rfl) ?_
 refine aq 7 (q_bin (r := .int .i64 (31 : Int)) rfl rfl rfl (by rw [natCells_len, hl]; rfl)) ?_
 refine aa 4 ?_
 refine an ?_
 refine AGo.block ?_
 refine AGo.loopI (γ := Nat) (fun k => ⟨23, (eput (eput (eput eNew 0 (.lst false (natCells l))) 3 (.int .u64 ((valB (l.drop k) : Nat) : Int))) 4 (.int .i64 ((k : Int) - 1))), hNone⟩) (fun k => k ≤ 32) (fun k => k) 32 (Sub.mk' (by repeat (first | exact ESub.new _ | refine ESub.put ?_ (by first | rfl | exact congrArg (fun (n : Nat) => some (AV.int .u64 (n : Int))) (by rw [List.drop_eq_nil_of_le (by omega)]; rfl)))) z9q) (Nat.le_refl _) ?_
 intro k hk
 refine AGo.seq ?_
 refine asr ?_
 refine am 8 ?_
 refine aqb ?_
 refine an ?_
 refine AGo.split 9 rfl (fun hb1 => ?_) (fun hb1 => ?_)
 ·
  refine act ?_
  obtain ⟨m, rfl⟩ : ∃ m, k = m + 1 := ⟨k - 1, by have h := hb1; simp at h; omega⟩
  obtain ⟨b, hx⟩ := get_of_lt (l := l) (k := m) (by omega)
  have hb2 := hb b (List.mem_of_getElem? hx)
  have hv := valB_drop_lt hl hb (m + 1)
  have hv2 := valB_drop hx
  refine AGo.skip ?_
  refine AGo.seq ?_
  refine AGo.block ?_
  refine AGo.region ?_
  refine am 12 ?_
  refine aq 13 (q_bin (r := .int .u64 ((2 * valB (l.drop (m + 1)) : Nat) : Int)) rfl rfl rfl (ebin_mul (a := 2) (b := valB (l.drop (m + 1))) (wrapN_u64 (by omega)))) ?_
  refine am 14 ?_
  refine am 15 ?_
  refine aq 16 (q_index_lst tok rfl rfl rfl rfl rfl rfl (by omega) (cs := [.int .i64 (b : Int)]) (by rw [show (((m + 1 : Nat) : Int) - 1).toNat = m by omega]; show (natCells l)[m]? = _; rw [natCells, List.getElem?_map, hx]; rfl) rfl) ?_
  refine al 17 tok ?_
  refine aq 18 (q_convSame tok rfl rfl rfl rfl rfl (wrapN_u64 (by omega))) ?_
  refine aq 19 (q_bin (r := .int .u64 ((2 * valB (l.drop (m + 1)) + b : Nat) : Int)) rfl rfl rfl (ebin_add (wrapN_u64 (by omega)))) ?_
  refine aa 3 ?_
  refine an ?_
  refine AGo.region ?_
  refine am 10 ?_
  refine aq 11 (q_bin (r := .int .i64 ((m : Int) - 1)) rfl rfl rfl z21q) ?_
  refine aa 4 ?_
  refine an ?_
  exact ⟨m, Sub.mk' (by repeat (first | exact ESub.new _ | refine ESub.put ?_ (by first | rfl | exact congrArg (fun (n : Nat) => some (AV.int .u64 (n : Int))) (by omega)))) z9q, (by omega), by omega⟩
 ·
  refine acf ?_
  obtain rfl : k = 0 := by have h := hb1; simp at h; omega
  refine AGo.exit ?_
  refine asr ?_
  refine am 20 ?_
  refine aq 21 (q_bin (r := .int .u64 ((valB (l.drop 0) % 4294967296 : Nat) : Int)) rfl rfl rfl (ebin_rem (a := valB (l.drop 0)) (b := 4294967296) (by decide))) ?_
  refine aq 22 (q_convSame tok rfl rfl rfl rfl rfl (wrapN_u32 (Nat.mod_lt _ (by decide)))) ?_
  refine aa 2 ?_
  refine an ?_
  refine AGo.ret ?_
  refine ⟨[_], ⟨rfl, trivial⟩, ?_, rfl⟩
  show AV.int .u32 _ = _
  rw [Nat.mod_eq_of_lt (valB_drop_lt hl hb 0), List.drop_zero]
set_option maxRecDepth 100000 in
theorem both_ok (op : Int) (a b : Nat) (ha : a < 4294967296) (hb : b < 4294967296) : APure Try.prog 95 [.int .i64 op, .int .u32 (a : Int), .int .u32 (b : Int)] (fun r => r = .int .u32 (valB (bothN op a b) : Int)) := by
 refine APure.of_body (n := 50) tok Try.func95 rfl rfl ?_
 refine asr ?_
 refine aa 6 ?_
 refine an ?_
 refine asr ?_
 refine am 11 ?_
 refine ax 12 (o_call (hc := hput hNew 0 .free) (hw := hput hNone 0 (.row true 1 (natCells (bitsN a 32)))) [0] [(0, (.row true 1 (natCells (bitsN a 32))))] rfl Try.func105 (by kernel_rfl) rfl rfl rfl ⟨⟨_, rfl, rfl⟩, trivial⟩ rfl (hres_cons rfl (hres_nil _)) ⟨⟨_, rfl, rfl, rfl⟩, trivial⟩ rfl (bits_ok0 a ha)) ?_
 refine am 13 ?_
 refine ax 14 (o_call (hc := hput hNew 1 .free) (hw := hput hNone 1 (.row true 1 (natCells (bitsN b 32)))) [1] [(1, (.row true 1 (natCells (bitsN b 32))))] rfl Try.func105 (by kernel_rfl) rfl rfl rfl ⟨⟨_, rfl, rfl⟩, trivial⟩ rfl (hres_cons rfl (hres_nil _)) ⟨⟨_, rfl, rfl, rfl⟩, trivial⟩ rfl (bits_ok1 b hb)) ?_
 refine aa 7 ?_
 refine aa 8 ?_
 refine an ?_
 refine AGo.seq ?_
 refine asr ?_
 refine aa 9 ?_
 refine an ?_
 refine AGo.block ?_
 refine AGo.loopI (γ := Nat) (fun k => ⟨50, (eput (eput (eput (eput eNew 0 (.int .i64 op)) 7 (.ref 0 32 0 32)) 8 (.ref 1 32 0 32)) 9 (.int .i64 (k : Int))), (hput (hput hNone 0 (.row true 1 (natCells (mixB op a b k)))) 1 (.row true 1 (natCells (bitsN b 32))))⟩) (fun k => k ≤ 32) (fun k => 32 - k) 0 (Sub.mk' z26q (by repeat (first | exact HSub.refl _ | exact HSub.none _ | exact HSub.from_new _ | exact HSub.from_from (by first | decide | omega | (dsimp only; omega)) | refine HSub.put ?_ (by first | rfl | exact congrArg (fun l => some (AObj.row true 1 (natCells l))) (mixB_zero op a b).symm) | refine HSub.from_put ?_ (by first | decide | omega | (dsimp only; omega)) | refine HSub.from_rm ?_ (by decide)))) (Nat.zero_le _) ?_
 intro k hk
 refine AGo.seq ?_
 refine asr ?_
 refine am 15 ?_
 refine aqb ?_
 refine an ?_
 refine AGo.split 16 rfl (fun hb1 => ?_) (fun hb1 => ?_)
 ·
  refine act ?_
  have hkl : k < 32 := by have h := hb1; simp at h; omega
  refine AGo.skip ?_
  refine AGo.seq ?_
  refine AGo.block ?_
  refine AGo.seq ?_
  refine AGo.draw mix ?_
  refine dm 19 ?_
  refine dm 20 ?_
  refine dq 21 (q_index_ref tok rfl rfl rfl rfl rfl rfl rfl (by simp [natCells_len, mixB_length (Nat.le_of_lt hkl), bitsN_length]) rfl (Int.natCast_nonneg _) (by omega)) ?_
  refine dq 22 (q_load tok rfl rfl rfl (.ptr _ _ _ _ _ _ _ _ rfl z29q (natCells_get (mixB_get hkl))) rfl) ?_
  refine dm 23 ?_
  refine dm 24 ?_
  refine dq 25 (q_index_ref tok rfl rfl rfl rfl rfl rfl rfl (by simp [natCells_len, mixB_length (Nat.le_of_lt hkl), bitsN_length]) rfl (Int.natCast_nonneg _) (by omega)) ?_
  refine dq 26 (q_load tok rfl rfl rfl (.ptr _ _ _ _ _ _ _ _ rfl (by simp [natCells_len, bitsN_length]) (natCells_get (bitsN_get hkl))) rfl) ?_
  refine dq 27 (q_bin (r := .int .i64 ((a / 2 ^ k % 2 + b / 2 ^ k % 2 : Nat) : Int)) rfl rfl rfl (ebin_add (wrapN_i64 (by omega)))) ?_
  refine da 10 ?_
  refine DOps.nil (by kernel_rfl) ?_
  refine asr ?_
  refine am 28 ?_
  refine am 29 ?_
  refine aq 30 (q_index_ref tok rfl rfl rfl rfl rfl rfl rfl (by simp [natCells_len, mixB_length (Nat.le_of_lt hkl), bitsN_length]) rfl (Int.natCast_nonneg _) (by omega)) ?_
  refine AOps.w rfl rfl (o_store tok rfl rfl rfl rfl rfl rfl z29q (natCells_get (mixB_get hkl)) rfl (by decide) rfl z30q) ?_
  refine an ?_
  refine asr ?_
  refine am 31 ?_
  refine aqb ?_
  refine am 33 ?_
  refine AOps.split 33 rfl (fun hb2 => ?_) (fun hb2 => ?_)
  ·
   refine am 34 ?_
   refine aqb ?_
   refine apt ?_
   refine am 37 ?_
   refine AOps.split 37 rfl (fun hb3 => ?_) (fun hb3 => ?_)
   ·
    iterate 6 refine ak _ ?_
    refine apt ?_
    refine an ?_
    refine act ?_
    refine AGo.region ?_
    refine am 45 ?_
    refine am 46 ?_
    refine aq 47 (q_index_ref tok rfl rfl rfl rfl rfl rfl rfl z29q rfl (Int.natCast_nonneg _) (by omega)) ?_
    refine AOps.w rfl rfl (o_store tok rfl rfl rfl rfl rfl rfl z29q (get_set_self (natCells_get (mixB_get hkl))) rfl (by decide) rfl z30q) ?_
    refine an ?_
    refine AGo.region ?_
    refine am 17 ?_
    refine aq 18 (q_inc rfl rfl hkl (show 32 ≤ maxLen by decide)) ?_
    refine aa 9 ?_
    refine an ?_
    exact ⟨k+1, Sub.mk' z26q z1q, hkl, by omega⟩
   ·
    refine am 38 ?_
    refine aqb ?_
    refine am 40 ?_
    refine AOps.split 40 rfl (fun hb4 => ?_) (fun hb4 => ?_)
    ·
     refine am 41 ?_
     refine aqb ?_
     refine apt ?_
     refine apf ?_
     refine an ?_
     refine AGo.split 44 rfl (fun hb5 => ?_) (fun hb5 => ?_)
     ·
      refine act ?_
      refine AGo.region ?_
      refine am 45 ?_
      refine am 46 ?_
      refine aq 47 (q_index_ref tok rfl rfl rfl rfl rfl rfl rfl z29q rfl (Int.natCast_nonneg _) (by omega)) ?_
      refine AOps.w rfl rfl (o_store tok rfl rfl rfl rfl rfl rfl z29q (get_set_self (natCells_get (mixB_get hkl))) rfl (by decide) rfl z30q) ?_
      refine an ?_
      refine AGo.region ?_
      refine am 17 ?_
      refine aq 18 (q_inc rfl rfl hkl (show 32 ≤ maxLen by decide)) ?_
      refine aa 9 ?_
      refine an ?_
      exact ⟨k+1, Sub.mk' z26q z1q, hkl, by omega⟩
     ·
      refine acf ?_
      refine AGo.skip ?_
      refine AGo.region ?_
      refine am 17 ?_
      refine aq 18 (q_inc rfl rfl hkl (show 32 ≤ maxLen by decide)) ?_
      refine aa 9 ?_
      refine an ?_
      exact ⟨k+1, Sub.mk' z26q z1q, hkl, by omega⟩
    ·
     iterate 2 refine ak _ ?_
     refine apf ?_
     refine apf ?_
     refine an ?_
     refine acf ?_
     refine AGo.skip ?_
     refine AGo.region ?_
     refine am 17 ?_
     refine aq 18 (q_inc rfl rfl hkl (show 32 ≤ maxLen by decide)) ?_
     refine aa 9 ?_
     refine an ?_
     exact ⟨k+1, Sub.mk' z26q z1q, hkl, by omega⟩
  ·
   iterate 2 refine ak _ ?_
   refine apf ?_
   refine am 37 ?_
   refine am 38 ?_
   refine aqb ?_
   refine am 40 ?_
   refine AOps.split 40 rfl (fun hb6 => ?_) (fun hb6 => ?_)
   ·
    refine am 41 ?_
    refine aqb ?_
    refine apt ?_
    refine apf ?_
    refine an ?_
    refine AGo.split 44 rfl (fun hb7 => ?_) (fun hb7 => ?_)
    ·
     refine act ?_
     refine AGo.region ?_
     refine am 45 ?_
     refine am 46 ?_
     refine aq 47 (q_index_ref tok rfl rfl rfl rfl rfl rfl rfl z29q rfl (Int.natCast_nonneg _) (by omega)) ?_
     refine AOps.w rfl rfl (o_store tok rfl rfl rfl rfl rfl rfl z29q (get_set_self (natCells_get (mixB_get hkl))) rfl (by decide) rfl z30q) ?_
     refine an ?_
     refine AGo.region ?_
     refine am 17 ?_
     refine aq 18 (q_inc rfl rfl hkl (show 32 ≤ maxLen by decide)) ?_
     refine aa 9 ?_
     refine an ?_
     exact ⟨k+1, Sub.mk' z26q z1q, hkl, by omega⟩
    ·
     refine acf ?_
     refine AGo.skip ?_
     refine AGo.region ?_
     refine am 17 ?_
     refine aq 18 (q_inc rfl rfl hkl (show 32 ≤ maxLen by decide)) ?_
     refine aa 9 ?_
     refine an ?_
     exact ⟨k+1, Sub.mk' z26q z1q, hkl, by omega⟩
   ·
    iterate 2 refine ak _ ?_
    refine apf ?_
    refine apf ?_
    refine an ?_
    refine acf ?_
    refine AGo.skip ?_
    refine AGo.region ?_
    refine am 17 ?_
    refine aq 18 (q_inc rfl rfl hkl (show 32 ≤ maxLen by decide)) ?_
    refine aa 9 ?_
    refine an ?_
    exact ⟨k+1, Sub.mk' z26q z1q, hkl, by omega⟩
 ·
  refine acf ?_
  have hge : ¬ k < 32 := by have h := hb1; simp at h; omega
  obtain rfl : k = 32 := by omega
  rw [mixB_end]
  refine AGo.exit ?_
  refine AGo.seq ?_
  refine AGo.ghost (.freezeAll 7 0 rfl rfl (by simp [natCells_len, bothN_length])) ?_
  refine AGo.region ?_
  refine am 48 ?_
  refine ax 49 (o_pure rfl Try.func106 (by kernel_rfl) rfl rfl rfl (bitsOf_ok _ (bothN_length _ _ _) (bothN_lt _ _ _))) ?_
  refine aa 6 ?_
  refine an ?_
  refine AGo.ret ?_
  refine ⟨[_], ⟨rfl, trivial⟩, ?_, rfl⟩
  rfl
set_option maxRecDepth 100000 in
theorem rshift_ok (op : Int) (a b : Nat) (ha : a < 4294967296) (hb : b < 4294967296) (ho : op = 12 ∨ op = 13) : APure Try.prog 96 [.int .i64 op, .int .u32 (a : Int), .int .u32 (b : Int)] (fun r => r = .int .u32 (wshift op a b)) := by
 refine APure.of_body (n := 27) tok Try.func96 rfl rfl ?_
 refine asr ?_
 refine aa 6 ?_
 refine an ?_
 refine AGo.seq ?_
 refine asr ?_
 refine am 9 ?_
 refine aqb ?_
 refine an ?_
 refine AGo.split 10 rfl (fun hb1 => ?_) (fun hb1 => ?_)
 ·
  refine act ?_
  have hb32 : 32 ≤ b := by have h := hb1; simp at h; omega
  refine asr ?_
  refine aa 6 ?_
  refine an ?_
  refine AGo.ret ?_
  refine ⟨[_], ⟨rfl, trivial⟩, ?_, rfl⟩
  show AV.int .u32 _ = _
  rw [wshift_big op hb32]
 ·
  refine acf ?_
  have hb32 : b < 32 := by have h := hb1; simp at h; omega
  refine AGo.skip ?_
  refine asr ?_
  refine am 11 ?_
  refine aq 12 (q_convSame tok rfl rfl rfl rfl rfl (wrapN_u64 (by omega))) ?_
  refine aa 7 ?_
  refine an ?_
  refine AGo.seq ?_
  refine asr ?_
  refine aa 8 ?_
  refine an ?_
  refine AGo.block ?_
  refine AGo.loopI (γ := Nat) (fun k => ⟨27, (eput (eput (eput (eput eNew 0 (.int .i64 op)) 2 (.int .u32 (b : Int))) 7 (.int .u64 ((shN op a k : Nat) : Int))) 8 (.int .u32 (k : Int))), hNone⟩) (fun k => k ≤ b) (fun k => b - k) 0 (Sub.mk' z26q z9q) (Nat.zero_le _) ?_
  intro k hk
  refine AGo.seq ?_
  refine asr ?_
  refine am 13 ?_
  refine am 14 ?_
  refine aqb ?_
  refine an ?_
  refine AGo.split 15 rfl (fun hb2 => ?_) (fun hb2 => ?_)
  ·
   refine act ?_
   have hkl : k < b := by have h := hb2; simp at h; omega
   have hlt := shN_lt (op := op) ha k
   refine AGo.skip ?_
   refine AGo.seq ?_
   refine AGo.block ?_
   refine asr ?_
   refine am 18 ?_
   refine aqb ?_
   refine an ?_
   refine AGo.split 19 rfl (fun hb3 => ?_) (fun hb3 => ?_)
   ·
    refine act ?_
    refine AGo.region ?_
    refine am 20 ?_
    refine aq 21 (q_bin (r := .int .u64 ((2 * shN op a k : Nat) : Int)) rfl rfl rfl (ebin_mul (a := 2) (b := shN op a k) (wrapN_u64 (by omega)))) ?_
    refine aq 22 (q_bin (r := .int .u64 ((2 * shN op a k % 4294967296 : Nat) : Int)) rfl rfl rfl (ebin_rem (a := 2 * shN op a k) (b := 4294967296) (by decide))) ?_
    refine aa 7 ?_
    refine an ?_
    refine AGo.region ?_
    refine am 16 ?_
    refine aq 17 (q_bin (r := .int .u32 ((k + 1 : Nat) : Int)) rfl rfl rfl (ebin_add (b := 1) (wrapN_u32 (by omega)))) ?_
    refine aa 8 ?_
    refine an ?_
    exact ⟨k+1, Sub.mk' (by repeat (first | exact ESub.new _ | refine ESub.put ?_ (by first | rfl | exact congrArg (fun (n : Nat) => some (AV.int .u64 (n : Int))) (by simp only [shN, *, cond_true, cond_false])))) z9q, hkl, by omega⟩
   ·
    refine acf ?_
    refine AGo.region ?_
    refine am 23 ?_
    refine aq 24 (q_bin (r := .int .u64 ((shN op a k / 2 : Nat) : Int)) rfl rfl rfl (ebin_quo (a := shN op a k) (b := 2) (by decide) (wrapN_u64 (by omega)))) ?_
    refine aa 7 ?_
    refine an ?_
    refine AGo.region ?_
    refine am 16 ?_
    refine aq 17 (q_bin (r := .int .u32 ((k + 1 : Nat) : Int)) rfl rfl rfl (ebin_add (b := 1) (wrapN_u32 (by omega)))) ?_
    refine aa 8 ?_
    refine an ?_
    exact ⟨k+1, Sub.mk' (by repeat (first | exact ESub.new _ | refine ESub.put ?_ (by first | rfl | exact congrArg (fun (n : Nat) => some (AV.int .u64 (n : Int))) (by simp only [shN, *, cond_true, cond_false])))) z9q, hkl, by omega⟩
  ·
   refine acf ?_
   obtain rfl : k = b := by have h := hb2; simp at h; omega
   refine AGo.exit ?_
   refine asr ?_
   refine am 25 ?_
   refine aq 26 (q_convSame tok rfl rfl rfl rfl rfl (wrapN_u32 (shN_lt ha _))) ?_
   refine aa 6 ?_
   refine an ?_
   refine AGo.ret ?_
   refine ⟨[_], ⟨rfl, trivial⟩, ?_, rfl⟩
   show AV.int .u32 _ = _
   rw [wshift_small ha hb32 ho]
set_option maxRecDepth 100000 in
theorem flag_ok (ok : Bool) : APure Try.prog 97 [.bool ok] (fun r => r = .int .u32 (bif ok then 1 else 0)) := by
 refine APure.of_body (n := 4) tok Try.func97 rfl rfl ?_
 refine asr ?_
 refine aa 2 ?_
 refine an ?_
 refine AGo.seq ?_
 refine asr ?_
 refine am 3 ?_
 refine an ?_
 refine AGo.split 3 rfl (fun hb1 => ?_) (fun hb1 => ?_)
 ·
  refine act ?_
  refine asr ?_
  refine aa 2 ?_
  refine an ?_
  refine AGo.ret ?_
  refine ⟨[_], ⟨rfl, trivial⟩, ?_, rfl⟩
  show AV.int .u32 _ = _
  simp [*]
 ·
  refine acf ?_
  refine AGo.skip ?_
  refine asr ?_
  refine aa 2 ?_
  refine an ?_
  refine AGo.ret ?_
  refine ⟨[_], ⟨rfl, trivial⟩, ?_, rfl⟩
  show AV.int .u32 _ = _
  simp [*]
set_option maxRecDepth 100000 in
theorem rapply_okN (op : Int) (a b : Nat) (ha : a < 4294967296) (hb : b < 4294967296) : APure Try.prog 74 [.int .i64 op, .int .u32 (a : Int), .int .u32 (b : Int)] (fun r => r = wpair (wapp op a b)) := by
 refine APure.of_body (n := 80) tok Try.func74 rfl rfl ?_
 refine asr ?_
 refine aa 6 ?_
 refine aa 7 ?_
 refine an ?_
 refine asr ?_
 refine am 10 ?_
 refine aq 11 (q_convSame tok rfl rfl rfl rfl rfl (wrapN_u64 (by omega))) ?_
 refine am 12 ?_
 refine aq 13 (q_convSame tok rfl rfl rfl rfl rfl (wrapN_u64 (by omega))) ?_
 refine aa 8 ?_
 refine aa 9 ?_
 refine an ?_
 refine AGo.seq ?_
 refine asr ?_
 refine am 14 ?_
 refine an ?_
 refine AGo.block ?_
 refine asr ?_
 refine aqb ?_
 refine aa 15 ?_
 refine an ?_
 refine AGo.split 15 rfl (fun hb1 => ?_) (fun hb1 => ?_)
 ·
  refine act ?_
  obtain rfl : op = 4 := by simpa using hb1
  refine asr ?_
  refine am 17 ?_
  refine am 18 ?_
  refine aq 19 (q_bin (r := .int .u64 ((a + b : Nat) : Int)) rfl rfl rfl (ebin_add (wrapN_u64 (by omega)))) ?_
  refine aq 20 (q_bin (r := .int .u64 (((a + b) % 4294967296 : Nat) : Int)) rfl rfl rfl (ebin_rem (a := a + b) (b := 4294967296) (by decide))) ?_
  refine aq 21 (q_convSame tok rfl rfl rfl rfl rfl (wrapN_u32 (Nat.mod_lt _ (by decide)))) ?_
  refine aa 6 ?_
  refine aa 7 ?_
  refine an ?_
  refine AGo.ret ?_
  refine ⟨[_, _], ⟨rfl, rfl, trivial⟩, ?_, rfl⟩
  show AV.tup _ = _
  rw [wapp_add]; rfl
 ·
  refine acf ?_
  refine asr ?_
  refine aqb ?_
  refine aa 22 ?_
  refine an ?_
  refine AGo.split 22 rfl (fun hb2 => ?_) (fun hb2 => ?_)
  ·
   refine act ?_
   obtain rfl : op = 5 := by simpa using hb2
   refine asr ?_
   refine am 24 ?_
   refine aq 25 (q_bin (r := .int .u64 ((a + 4294967296 : Nat) : Int)) rfl rfl rfl (ebin_add (b := 4294967296) (wrapN_u64 (by omega)))) ?_
   refine am 26 ?_
   refine aq 27 (q_bin (r := .int .u64 ((a + 4294967296 - b : Nat) : Int)) rfl rfl rfl (ebin_sub (by omega) (wrapN_u64 (by omega)))) ?_
   refine aq 28 (q_bin (r := .int .u64 (((a + 4294967296 - b) % 4294967296 : Nat) : Int)) rfl rfl rfl (ebin_rem (a := a + 4294967296 - b) (b := 4294967296) (by decide))) ?_
   refine aq 29 (q_convSame tok rfl rfl rfl rfl rfl (wrapN_u32 (Nat.mod_lt _ (by decide)))) ?_
   refine aa 6 ?_
   refine aa 7 ?_
   refine an ?_
   refine AGo.ret ?_
   refine ⟨[_, _], ⟨rfl, rfl, trivial⟩, ?_, rfl⟩
   show AV.tup _ = _
   rw [wapp_sub hb]; rfl
  ·
   refine acf ?_
   refine asr ?_
   refine aqb ?_
   refine aa 30 ?_
   refine an ?_
   refine AGo.split 30 rfl (fun hb3 => ?_) (fun hb3 => ?_)
   ·
    refine act ?_
    obtain rfl : op = 6 := by simpa using hb3
    have hab : a * b < 18446744073709551616 := by have := Nat.mul_lt_mul'' ha hb; omega
    refine asr ?_
    refine am 32 ?_
    refine am 33 ?_
    refine aq 34 (q_bin (r := .int .u64 ((a * b : Nat) : Int)) rfl rfl rfl (ebin_mul (wrapN_u64 hab))) ?_
    refine aq 35 (q_bin (r := .int .u64 ((a * b % 4294967296 : Nat) : Int)) rfl rfl rfl (ebin_rem (a := a * b) (b := 4294967296) (by decide))) ?_
    refine aq 36 (q_convSame tok rfl rfl rfl rfl rfl (wrapN_u32 (Nat.mod_lt _ (by decide)))) ?_
    refine aa 6 ?_
    refine aa 7 ?_
    refine an ?_
    refine AGo.ret ?_
    refine ⟨[_, _], ⟨rfl, rfl, trivial⟩, ?_, rfl⟩
    show AV.tup _ = _
    rw [wapp_mul]; rfl
   ·
    refine acf ?_
    refine asr ?_
    refine aqb ?_
    refine aa 37 ?_
    refine an ?_
    refine AGo.split 37 rfl (fun hb4 => ?_) (fun hb4 => ?_)
    ·
     refine act ?_
     obtain rfl : op = 7 := by simpa using hb4
     refine AGo.seq ?_
     refine asr ?_
     refine am 39 ?_
     refine aqb ?_
     refine an ?_
     refine AGo.split 40 rfl (fun hb5 => ?_) (fun hb5 => ?_)
     ·
      refine act ?_
      obtain rfl : b = 0 := by have h := hb5; simp at h; omega
      refine asr ?_
      refine aa 6 ?_
      refine aa 7 ?_
      refine an ?_
      refine AGo.ret ?_
      refine ⟨[_, _], ⟨rfl, rfl, trivial⟩, ?_, rfl⟩
      show AV.tup _ = _
      rw [show (((0 : Nat) : Int)) = 0 from rfl, wapp_div0 _ _ (by simp)]; rfl
     ·
      refine acf ?_
      have hb0 : ¬ b = 0 := by have h := hb5; simp at h; omega
      have hda := Nat.div_le_self a b
      refine AGo.skip ?_
      refine asr ?_
      refine am 41 ?_
      refine am 42 ?_
      refine aq 43 (q_bin (r := .int .u64 ((a / b : Nat) : Int)) rfl rfl rfl (ebin_quo (Nat.pos_of_ne_zero hb0) (wrapN_u64 (by omega)))) ?_
      refine aq 44 (q_convSame tok rfl rfl rfl rfl rfl (wrapN_u32 (by omega))) ?_
      refine aa 6 ?_
      refine aa 7 ?_
      refine an ?_
      refine AGo.ret ?_
      refine ⟨[_, _], ⟨rfl, rfl, trivial⟩, ?_, rfl⟩
      show AV.tup _ = _
      rw [wapp_div ha hb0]; rfl
    ·
     refine acf ?_
     refine asr ?_
     refine aqb ?_
     refine aa 45 ?_
     refine an ?_
     refine AGo.split 45 rfl (fun hb6 => ?_) (fun hb6 => ?_)
     ·
      refine act ?_
      obtain rfl : op = 8 := by simpa using hb6
      refine AGo.seq ?_
      refine asr ?_
      refine am 47 ?_
      refine aqb ?_
      refine an ?_
      refine AGo.split 48 rfl (fun hb7 => ?_) (fun hb7 => ?_)
      ·
       refine act ?_
       obtain rfl : b = 0 := by have h := hb7; simp at h; omega
       refine asr ?_
       refine aa 6 ?_
       refine aa 7 ?_
       refine an ?_
       refine AGo.ret ?_
       refine ⟨[_, _], ⟨rfl, rfl, trivial⟩, ?_, rfl⟩
       show AV.tup _ = _
       rw [show (((0 : Nat) : Int)) = 0 from rfl, wapp_div0 _ _ (by simp)]; rfl
      ·
       refine acf ?_
       have hb0 : ¬ b = 0 := by have h := hb7; simp at h; omega
       have hma := Nat.mod_lt a (Nat.pos_of_ne_zero hb0)
       refine AGo.skip ?_
       refine asr ?_
       refine am 49 ?_
       refine am 50 ?_
       refine aq 51 (q_bin (r := .int .u64 ((a % b : Nat) : Int)) rfl rfl rfl (ebin_rem (Nat.pos_of_ne_zero hb0))) ?_
       refine aq 52 (q_convSame tok rfl rfl rfl rfl rfl (wrapN_u32 (by omega))) ?_
       refine aa 6 ?_
       refine aa 7 ?_
       refine an ?_
       refine AGo.ret ?_
       refine ⟨[_, _], ⟨rfl, rfl, trivial⟩, ?_, rfl⟩
       show AV.tup _ = _
       rw [wapp_mod hb0]; rfl
     ·
      refine acf ?_
      refine AGo.seq ?_
      refine asr ?_
      refine aqb ?_
      refine aa 53 ?_
      refine an ?_
      refine AGo.split 53 rfl (fun hb8 => ?_) (fun hb8 => ?_)
      ·
       refine act ?_
       refine AGo.skip ?_
       refine act ?_
       refine asr ?_
       have ho : op = 9 ∨ op = 10 ∨ op = 11 := by simp_all
       refine am 57 ?_
       refine am 58 ?_
       refine am 59 ?_
       refine ax 60 (o_pure rfl Try.func95 (by kernel_rfl) rfl rfl rfl (both_ok _ a b ha hb)) ?_
       refine aa 6 ?_
       refine aa 7 ?_
       refine an ?_
       refine AGo.ret ?_
       refine ⟨[_, _], ⟨rfl, rfl, trivial⟩, ?_, rfl⟩
       show AV.tup _ = _
       rw [wapp_both ha hb ho]; rfl
      ·
       refine acf ?_
       refine asr ?_
       refine aqb ?_
       refine aa 53 ?_
       refine an ?_
       refine AGo.split 53 rfl (fun hb9 => ?_) (fun hb9 => ?_)
       ·
        refine act ?_
        refine AGo.skip ?_
        refine act ?_
        refine asr ?_
        have ho : op = 9 ∨ op = 10 ∨ op = 11 := by simp_all
        refine am 57 ?_
        refine am 58 ?_
        refine am 59 ?_
        refine ax 60 (o_pure rfl Try.func95 (by kernel_rfl) rfl rfl rfl (both_ok _ a b ha hb)) ?_
        refine aa 6 ?_
        refine aa 7 ?_
        refine an ?_
        refine AGo.ret ?_
        refine ⟨[_, _], ⟨rfl, rfl, trivial⟩, ?_, rfl⟩
        show AV.tup _ = _
        rw [wapp_both ha hb ho]; rfl
       ·
        refine acf ?_
        refine AGo.region ?_
        refine aqb ?_
        refine aa 53 ?_
        refine an ?_
        refine AGo.split 53 rfl (fun hb10 => ?_) (fun hb10 => ?_)
        ·
         refine act ?_
         refine asr ?_
         have ho : op = 9 ∨ op = 10 ∨ op = 11 := by simp_all
         refine am 57 ?_
         refine am 58 ?_
         refine am 59 ?_
         refine ax 60 (o_pure rfl Try.func95 (by kernel_rfl) rfl rfl rfl (both_ok _ a b ha hb)) ?_
         refine aa 6 ?_
         refine aa 7 ?_
         refine an ?_
         refine AGo.ret ?_
         refine ⟨[_, _], ⟨rfl, rfl, trivial⟩, ?_, rfl⟩
         show AV.tup _ = _
         rw [wapp_both ha hb ho]; rfl
        ·
         refine acf ?_
         refine AGo.seq ?_
         refine asr ?_
         refine aqb ?_
         refine aa 61 ?_
         refine an ?_
         refine AGo.split 61 rfl (fun hb11 => ?_) (fun hb11 => ?_)
         ·
          refine act ?_
          refine AGo.skip ?_
          refine act ?_
          refine asr ?_
          have ho : op = 12 ∨ op = 13 := by simp_all
          refine am 64 ?_
          refine am 65 ?_
          refine am 66 ?_
          refine ax 67 (o_pure rfl Try.func96 (by kernel_rfl) rfl rfl rfl (rshift_ok _ a b ha hb ho)) ?_
          refine aa 6 ?_
          refine aa 7 ?_
          refine an ?_
          refine AGo.ret ?_
          refine ⟨[_, _], ⟨rfl, rfl, trivial⟩, ?_, rfl⟩
          show AV.tup _ = _
          rw [wapp_shift ho]; rfl
         ·
          refine acf ?_
          refine AGo.region ?_
          refine aqb ?_
          refine aa 61 ?_
          refine an ?_
          refine AGo.split 61 rfl (fun hb12 => ?_) (fun hb12 => ?_)
          ·
           refine act ?_
           refine asr ?_
           have ho : op = 12 ∨ op = 13 := by simp_all
           refine am 64 ?_
           refine am 65 ?_
           refine am 66 ?_
           refine ax 67 (o_pure rfl Try.func96 (by kernel_rfl) rfl rfl rfl (rshift_ok _ a b ha hb ho)) ?_
           refine aa 6 ?_
           refine aa 7 ?_
           refine an ?_
           refine AGo.ret ?_
           refine ⟨[_, _], ⟨rfl, rfl, trivial⟩, ?_, rfl⟩
           show AV.tup _ = _
           rw [wapp_shift ho]; rfl
          ·
           refine acf ?_
           refine asr ?_
           refine aqb ?_
           refine aa 68 ?_
           refine an ?_
           refine AGo.split 68 rfl (fun hb13 => ?_) (fun hb13 => ?_)
           ·
            refine act ?_
            obtain rfl : op = 14 := by simpa using hb13
            refine asr ?_
            refine am 70 ?_
            refine am 71 ?_
            refine aqb ?_
            refine ax 73 (o_pure rfl Try.func97 (by kernel_rfl) rfl rfl rfl (flag_ok _)) ?_
            refine aa 6 ?_
            refine aa 7 ?_
            refine an ?_
            refine AGo.ret ?_
            refine ⟨[_, _], ⟨rfl, rfl, trivial⟩, ?_, rfl⟩
            show AV.tup _ = _
            rw [wapp_lt]; rfl
           ·
            refine acf ?_
            refine asr ?_
            refine aqb ?_
            refine aa 74 ?_
            refine an ?_
            refine AGo.split 74 rfl (fun hb14 => ?_) (fun hb14 => ?_)
            ·
             refine act ?_
             obtain rfl : op = 15 := by simpa using hb14
             refine asr ?_
             refine am 76 ?_
             refine am 77 ?_
             refine aqb ?_
             refine ax 79 (o_pure rfl Try.func97 (by kernel_rfl) rfl rfl rfl (flag_ok _)) ?_
             refine aa 6 ?_
             refine aa 7 ?_
             refine an ?_
             refine AGo.ret ?_
             refine ⟨[_, _], ⟨rfl, rfl, trivial⟩, ?_, rfl⟩
             show AV.tup _ = _
             rw [wapp_eq]; rfl
            ·
             refine acf ?_
             refine AGo.skip ?_
             refine asr ?_
             refine aa 6 ?_
             refine aa 7 ?_
             refine an ?_
             refine AGo.ret ?_
             refine ⟨[_, _], ⟨rfl, rfl, trivial⟩, ?_, rfl⟩
             show AV.tup _ = AV.tup _
             simp [wapp, *]
theorem rapply_ok (op a b : Int) (ha : isW a) (hb : isW b) : APure Try.prog 74 [.int .i64 op, .int .u32 a, .int .u32 b] (fun r => r = wpair (wapp op a b)) := by
  obtain ⟨n, rfl⟩ := Int.eq_ofNat_of_zero_le ha.1
  obtain ⟨m, rfl⟩ := Int.eq_ofNat_of_zero_le hb.1
  exact rapply_okN op n m (by have := ha.2; omega) (by have := hb.2; omega)
set_option maxRecDepth 100000 in
theorem ends10_ok (x y : Mach) : APure Try.prog 17 [.agg (resCells x), .agg (resCells y)] (fun r => r = .bool (x.fin == y.fin && (x.out == y.out))) := by
 refine APure.of_body (n := 17) tok Try.func17 rfl rfl ?_
 refine asr ?_
 refine ax 2 (o_box (sz := 3) 0 rfl rfl rfl rfl (Nat.zero_lt_succ _) rfl) ?_
 refine ax 3 (o_box (sz := 3) 1 rfl rfl rfl rfl (Nat.zero_lt_succ _) rfl) ?_
 refine aa 4 ?_
 refine an ?_
 refine asr ?_
 refine af 5 tok ?_
 refine al 6 tok ?_
 refine af 7 tok ?_
 refine al 8 tok ?_
 refine aqb ?_
 refine am 10 ?_
 refine AOps.split 10 rfl (fun hb1 => ?_) (fun hb1 => ?_)
 ·
  refine af 11 tok ?_
  refine al 12 tok ?_
  refine af 13 tok ?_
  refine al 14 tok ?_
  refine aqb ?_
  refine apt ?_
  refine aa 4 ?_
  refine an ?_
  refine AGo.ret ?_
  refine ⟨[_], ⟨rfl, trivial⟩, ?_, rfl⟩
  show AV.bool _ = AV.bool _
  congr 1
  simp_all [bytes_eqB]
 ·
  iterate 5 refine ak _ ?_
  refine apf ?_
  refine aa 4 ?_
  refine an ?_
  refine AGo.ret ?_
  refine ⟨[_], ⟨rfl, trivial⟩, ?_, rfl⟩
  show AV.bool _ = AV.bool _
  congr 1
  simp_all [bytes_eqB]
set_option maxRecDepth 100000 in
theorem sizeE_step (l : List CE) (hlen : l.length ≤ maxLen) (hp : CE.partsL l ≤ 1000000) (hrec : ∀ x ∈ l, APure Try.prog 75 [(.lst false (x.kids.map CE.cells))] (fun r => r = .int .i64 (CE.partsL x.kids : Int))) : APure Try.prog 75 [(.lst false (l.map CE.cells))] (fun r => r = .int .i64 (CE.partsL l : Int)) := by
 refine APure.of_body (n := 22) tok Try.func75 rfl rfl ?_
 refine asr ?_
 refine aa 2 ?_
 refine an ?_
 refine asr ?_
 refine am 5 ?_
 refine aq 6 (q_len tok rfl rfl rfl rfl rfl) ?_
 refine aa 3 ?_
 refine an ?_
 refine AGo.seq ?_
 refine asr ?_
 refine aa 4 ?_
 refine an ?_
 refine AGo.block ?_
 refine AGo.loopD (γ := Nat) 0 (fun k => ⟨22, (eput (eput (eput eNew 0 (.lst false (l.map CE.cells))) 3 (.int .i64 ((CE.partsL (l.take k) + (l.length - k) : Nat) : Int))) 4 (.int .i64 (k : Int))), (hFrom 0)⟩) (fun k => k ≤ l.length) (fun k => l.length - k) 0 (Sub.mk' (by repeat (first | exact ESub.new _ | refine ESub.put ?_ (by first | rfl | exact congrArg (fun n => some (AV.int .i64 n)) (by simp [CE.partsL])))) z9q) (Nat.zero_le _) (fun _ => fun b hb => hFrom_free hb) ?_
 intro k hk
 refine AGo.seq ?_
 refine asr ?_
 refine am 7 ?_
 refine am 8 ?_
 refine aq 9 (q_len tok rfl rfl rfl rfl rfl) ?_
 refine aqb ?_
 refine an ?_
 refine AGo.split 10 rfl (fun hb1 => ?_) (fun hb1 => ?_)
 ·
  refine act ?_
  have hkl : k < l.length := lt_of_idx hb1
  obtain ⟨x, hx⟩ := get_of_lt hkl
  have htk := partsL_take hx
  have hle := partsL_le (l := l) (k + 1)
  have hpk := parts_kids x
  have hln := partsL_len l
  have hrest := partsL_app (l.drop (k + 1)) (l.take (k + 1))
  rw [List.take_append_drop] at hrest
  have hdl := partsL_len (l.drop (k + 1))
  rw [List.length_drop] at hdl
  refine AGo.skip ?_
  refine AGo.seq ?_
  refine AGo.block ?_
  refine AGo.region ?_
  refine am 13 ?_
  refine am 14 ?_
  refine am 15 ?_
  refine aq 16 (q_index_lst tok rfl rfl rfl rfl rfl rfl (Int.natCast_nonneg _) (idxE hx) rfl) ?_
  refine af 17 tok ?_
  refine al 18 tok ?_
  refine ax 19 (o_pure rfl Try.func75 (by kernel_rfl) rfl rfl rfl (hrec x (List.mem_of_getElem? hx))) ?_
  refine aq 20 (q_bin (r := .int .i64 (((CE.partsL (l.take k) + (l.length - k) + CE.partsL x.kids : Nat) : Int))) rfl rfl rfl z20q) ?_
  refine aa 3 ?_
  refine an ?_
  refine AGo.region ?_
  refine am 11 ?_
  refine aq 12 (q_inc rfl rfl hkl hlen) ?_
  refine aa 4 ?_
  refine an ?_
  exact ⟨k+1, Drop.mk' (by repeat (first | exact EDrop.new _ _ | refine EDrop.put ?_ (by first | rfl | exact congrArg (fun n => some (AV.int .i64 n)) (by rw [htk, parts_kids]; omega)) (by first | rfl | exact slA_avoid _ rfl | exact vaA_avoid _ rfl))) z13q, hkl, by omega⟩
 ·
  refine acf ?_
  have hke : k = l.length := Nat.le_antisymm hk (ge_of_idx hb1)
  refine AGo.exit ?_
  refine asr ?_
  refine am 21 ?_
  refine aa 2 ?_
  refine an ?_
  refine AGo.ret ?_
  refine ⟨[_], ⟨rfl, trivial⟩, ?_, rfl⟩
  subst hke
  rw [List.take_length, Nat.sub_self]; rfl
theorem sizeE_ok : ∀ (n : Nat) (l : List CE), CE.partsL l ≤ n → (∀ e ∈ l, e.Ok) → l.length * 64 ≤ reachBytes → CE.partsL l ≤ 1000000 → APure Try.prog 75 [(.lst false (l.map CE.cells))] (fun r => r = .int .i64 (CE.partsL l : Int))
  | 0, l, hn, hk, hl, h1 => sizeE_step l (len64 hl) h1 fun x hx => absurd (parts_mem hx) (by have := parts_kids x; omega)
  | n + 1, l, hn, hk, hl, h1 => sizeE_step l (len64 hl) h1 fun x hx => sizeE_ok n x.kids (by have := parts_mem hx; have := parts_kids x; omega) (hk x hx).kidsOk.1 (hk x hx).kidsOk.2 (by have := parts_mem hx; have := parts_kids x; omega)
set_option maxRecDepth 100000 in
theorem sizeS_step (l : List CS) (hk : ∀ e ∈ l, e.Ok) (hlen : l.length ≤ maxLen) (hp : CS.partsL l ≤ 1000000) (hrec : ∀ x ∈ l, APure Try.prog 56 [(.lst false (x.thn.map CS.cells))] (fun r => r = .int .i64 (CS.partsL x.thn : Int)) ∧ APure Try.prog 56 [(.lst false (x.els.map CS.cells))] (fun r => r = .int .i64 (CS.partsL x.els : Int))) : APure Try.prog 56 [(.lst false (l.map CS.cells))] (fun r => r = .int .i64 (CS.partsL l : Int)) := by
 refine APure.of_body (n := 36) tok Try.func56 rfl rfl ?_
 refine asr ?_
 refine aa 2 ?_
 refine an ?_
 refine asr ?_
 refine am 5 ?_
 refine aq 6 (q_len tok rfl rfl rfl rfl rfl) ?_
 refine aa 3 ?_
 refine an ?_
 refine AGo.seq ?_
 refine asr ?_
 refine aa 4 ?_
 refine an ?_
 refine AGo.block ?_
 refine AGo.loopD (γ := Nat) 0 (fun k => ⟨36, (eput (eput (eput eNew 0 (.lst false (l.map CS.cells))) 3 (.int .i64 ((CS.partsL (l.take k) + (l.length - k) : Nat) : Int))) 4 (.int .i64 (k : Int))), (hFrom 0)⟩) (fun k => k ≤ l.length) (fun k => l.length - k) 0 (Sub.mk' (by repeat (first | exact ESub.new _ | refine ESub.put ?_ (by first | rfl | exact congrArg (fun n => some (AV.int .i64 n)) (by simp [CS.partsL])))) z9q) (Nat.zero_le _) (fun _ => fun b hb => hFrom_free hb) ?_
 intro k hkk
 refine AGo.seq ?_
 refine asr ?_
 refine am 7 ?_
 refine am 8 ?_
 refine aq 9 (q_len tok rfl rfl rfl rfl rfl) ?_
 refine aqb ?_
 refine an ?_
 refine AGo.split 10 rfl (fun hb1 => ?_) (fun hb1 => ?_)
 ·
  refine act ?_
  have hkl : k < l.length := lt_of_idx hb1
  obtain ⟨x, hx⟩ := get_of_lt hkl
  have hxm := List.mem_of_getElem? hx
  have hxk := hk x hxm
  have htk := spartsL_take hx
  have hpk := sparts_es x
  have hrest := spartsL_app (l.drop (k + 1)) (l.take (k + 1))
  rw [List.take_append_drop] at hrest
  have hdl := spartsL_len (l.drop (k + 1))
  rw [List.length_drop] at hdl
  refine AGo.skip ?_
  refine AGo.seq ?_
  refine AGo.block ?_
  refine AGo.draw mix ?_
  refine dm 13 ?_
  refine dm 14 ?_
  refine dm 15 ?_
  refine dq 16 (q_index_lst tok rfl rfl rfl rfl rfl rfl (Int.natCast_nonneg _) (idxS hx) rfl) ?_
  refine df 17 tok ?_
  refine dl 18 tok ?_
  refine dx 19 (o_pure rfl Try.func75 (by kernel_rfl) rfl rfl rfl (sizeE_ok _ x.es (Nat.le_refl _) hxk.esOk.1 hxk.esOk.2 (by omega))) ?_
  refine dq 20 (q_bin (r := .int .i64 (((CS.partsL (l.take k) + (l.length - k) + CE.partsL x.es : Nat) : Int))) rfl rfl rfl z20q) ?_
  refine dm 21 ?_
  refine dm 22 ?_
  refine dq 23 (q_index_lst tok rfl rfl rfl rfl rfl rfl (Int.natCast_nonneg _) (idxS hx) rfl) ?_
  refine df 24 tok ?_
  refine dl 25 tok ?_
  refine dx 26 (o_pure rfl Try.func56 (by kernel_rfl) rfl rfl rfl ((hrec x hxm).1)) ?_
  refine dq 27 (q_bin (r := .int .i64 (((CS.partsL (l.take k) + (l.length - k) + CE.partsL x.es + CS.partsL x.thn : Nat) : Int))) rfl rfl rfl z20q) ?_
  refine dm 28 ?_
  refine dm 29 ?_
  refine dq 30 (q_index_lst tok rfl rfl rfl rfl rfl rfl (Int.natCast_nonneg _) (idxS hx) rfl) ?_
  refine df 31 tok ?_
  refine dl 32 tok ?_
  refine dx 33 (o_pure rfl Try.func56 (by kernel_rfl) rfl rfl rfl ((hrec x hxm).2)) ?_
  refine dq 34 (q_bin (r := .int .i64 (((CS.partsL (l.take k) + (l.length - k) + CE.partsL x.es + CS.partsL x.thn + CS.partsL x.els : Nat) : Int))) rfl rfl rfl z20q) ?_
  refine da 3 ?_
  refine DOps.nil (by kernel_rfl) ?_
  refine AGo.region ?_
  refine am 11 ?_
  refine aq 12 (q_inc rfl rfl hkl hlen) ?_
  refine aa 4 ?_
  refine an ?_
  exact ⟨k+1, Drop.mk' (by repeat (first | exact EDrop.new _ _ | refine EDrop.put ?_ (by first | rfl | exact congrArg (fun n => some (AV.int .i64 n)) (by rw [htk, sparts_es]; omega)) (by first | rfl | exact slA_avoid _ rfl | exact vaA_avoid _ rfl))) z13q, hkl, by omega⟩
 ·
  refine acf ?_
  have hke : k = l.length := Nat.le_antisymm hkk (ge_of_idx hb1)
  refine AGo.exit ?_
  refine asr ?_
  refine am 35 ?_
  refine aa 2 ?_
  refine an ?_
  refine AGo.ret ?_
  refine ⟨[_], ⟨rfl, trivial⟩, ?_, rfl⟩
  subst hke
  rw [List.take_length, Nat.sub_self]; rfl
theorem sizeS_ok : ∀ (n : Nat) (l : List CS), CS.partsL l ≤ n → (∀ e ∈ l, e.Ok) → l.length * 96 ≤ reachBytes → CS.partsL l ≤ 1000000 → APure Try.prog 56 [(.lst false (l.map CS.cells))] (fun r => r = .int .i64 (CS.partsL l : Int))
  | 0, l, hn, hk, hl, h1 => sizeS_step l hk (len96 hl) h1 fun x hx => absurd (sparts_mem hx) (by have := sparts_es x; omega)
  | n + 1, l, hn, hk, hl, h1 => sizeS_step l hk (len96 hl) h1 fun x hx => ⟨sizeS_ok n x.thn (by have := sparts_mem hx; have := sparts_es x; omega) (hk x hx).thnOk.1 (hk x hx).thnOk.2 (by have := sparts_mem hx; have := sparts_es x; omega), sizeS_ok n x.els (by have := sparts_mem hx; have := sparts_es x; omega) (hk x hx).elsOk.1 (hk x hx).elsOk.2 (by have := sparts_mem hx; have := sparts_es x; omega)⟩
set_option maxRecDepth 100000 in
theorem size19_ok (C : Core) (hC : C.Ok) (hp : C.parts ≤ 1000000) : APure Try.prog 35 [.agg C.cells] (fun r => r = .int .i64 (C.parts : Int)) := by
 refine APure.of_body (n := 22) tok Try.func35 rfl rfl ?_
 refine asr ?_
 refine ax 1 (o_box (sz := 2) 0 rfl rfl rfl rfl (Nat.zero_lt_succ _) rfl) ?_
 refine aa 2 ?_
 refine an ?_
 refine asr ?_
 refine aa 3 ?_
 refine an ?_
 refine AGo.seq ?_
 refine asr ?_
 refine aa 4 ?_
 refine an ?_
 refine AGo.block ?_
 refine AGo.loopD (γ := Nat) 1 (fun k => ⟨22, (eput (eput (eput eNew 1 (.ptr 0 1 0 0)) 3 (.int .i64 ((((C.funcs.take k).map fun f => CS.partsL f.body).sum : Nat) : Int))) 4 (.int .i64 (k : Int))), (hput (hFrom 1) 0 (.row false 2 [C.cells]))⟩) (fun k => k ≤ C.funcs.length) (fun k => C.funcs.length - k) 0 (Sub.mk' z26q z9q) (Nat.zero_le _) (fun _ => hput_free (fun b hb => hFrom_free hb) rfl) ?_
 intro k hkk
 refine AGo.seq ?_
 refine asr ?_
 refine am 5 ?_
 refine af 6 tok ?_
 refine al 7 tok ?_
 refine aq 8 (q_len tok rfl rfl rfl rfl rfl) ?_
 refine aqb ?_
 refine an ?_
 refine AGo.split 9 rfl (fun hb1 => ?_) (fun hb1 => ?_)
 ·
  refine act ?_
  have hkl : k < C.funcs.length := lt_of_idx hb1
  obtain ⟨x, hx⟩ := get_of_lt hkl
  have hxm := List.mem_of_getElem? hx
  have htk := sum_succ (p := fun f : CFn => CS.partsL f.body) hx
  have hle := psum_le (k + 1) C
  have hxb := parts_body hxm
  refine AGo.skip ?_
  refine AGo.seq ?_
  refine AGo.block ?_
  refine AGo.region ?_
  refine am 12 ?_
  refine af 13 tok ?_
  refine al 14 tok ?_
  refine am 15 ?_
  refine aq 16 (q_index_lst tok rfl rfl rfl rfl rfl rfl (Int.natCast_nonneg _) (idx_map (by assumption)) rfl) ?_
  refine af 17 tok ?_
  refine al 18 tok ?_
  refine ax 19 (o_pure rfl Try.func56 (by kernel_rfl) rfl rfl rfl (sizeS_ok _ x.body (Nat.le_refl _) (hC.funcs x hxm).body (hC.funcs x hxm).len (by omega))) ?_
  refine aq 20 (q_bin (r := .int .i64 ((((((C.funcs.take k).map fun f => CS.partsL f.body).sum + CS.partsL x.body) : Nat) : Int))) rfl rfl rfl z20q) ?_
  refine aa 3 ?_
  refine an ?_
  refine AGo.region ?_
  refine am 10 ?_
  refine aq 11 (q_inc rfl rfl hkl (len56 hC.len)) ?_
  refine aa 4 ?_
  refine an ?_
  exact ⟨k+1, Drop.mk' (by repeat (first | exact EDrop.new _ _ | refine EDrop.put ?_ (by first | rfl | exact congrArg (fun n => some (AV.int .i64 n)) (by rw [htk])) (by first | rfl | exact slA_avoid _ rfl | exact vaA_avoid _ rfl))) z13q, hkl, by omega⟩
 ·
  refine acf ?_
  have hke : k = C.funcs.length := Nat.le_antisymm hkk (ge_of_idx hb1)
  refine AGo.exit ?_
  refine asr ?_
  refine am 21 ?_
  refine aa 2 ?_
  refine an ?_
  refine AGo.ret ?_
  refine ⟨[_], ⟨rfl, trivial⟩, ?_, rfl⟩
  subst hke
  rw [List.take_length]; rfl
set_option maxRecDepth 100000 in
theorem fuel25_ok (C : Core) (ticks : Int) (hC : C.Ok) (hp : C.parts ≤ 1000000) (h0 : 0 ≤ C.words) (h1 : C.words ≤ 1000000) (h2 : 0 ≤ ticks) (h3 : ticks ≤ 100000) : APure Try.prog 19 [.agg C.cells, .int .i64 ticks] (fun r => r = .int .i64 ((ticks + 1) * C.k)) := by
 refine APure.of_body (n := 15) tok Try.func19 rfl rfl ?_
 refine asr ?_
 refine ax 2 (o_box (sz := 2) 0 rfl rfl rfl rfl (Nat.zero_lt_succ _) rfl) ?_
 refine aa 4 ?_
 refine an ?_
 refine AGo.seq ?_
 refine AGo.draw mix ?_
 refine dm 5 ?_
 refine dq 6 (q_bin (r := .int .i64 (ticks + 1)) rfl rfl rfl z23q) ?_
 refine dq 7 (q_bin (r := .int .i64 ((ticks + 1) * 8)) rfl rfl rfl z23q) ?_
 refine dl 8 tok ?_
 refine dx 9 (o_pure rfl Try.func35 (by kernel_rfl) rfl rfl rfl (size19_ok C hC hp)) ?_
 refine df 10 tok ?_
 refine dl 11 tok ?_
 refine dq 12 (q_bin (r := .int .i64 ((C.parts : Int) + C.words)) rfl rfl rfl z23q) ?_
 refine dq 13 (q_bin (r := .int .i64 ((C.parts : Int) + C.words + 1)) rfl rfl rfl z23q) ?_
 refine dq 14 (q_bin (r := .int .i64 ((ticks + 1) * C.k)) rfl rfl rfl (by simp only [evalBin, evalInt, isShift, cond_false, if_true]; rw [show (ticks + 1) * 8 * ((C.parts : Int) + C.words + 1) = (ticks + 1) * C.k from fuel_eq h0 ticks, wrap_i64 (fuel_lo hp h0 h1 h2 h3).1 (fuel_lo hp h0 h1 h2 h3).2])) ?_
 refine da 4 ?_
 refine DOps.nil (by kernel_rfl) ?_
 refine AGo.ret ?_
 refine ⟨[_], ⟨rfl, trivial⟩, ?_, rfl⟩
 rfl
set_option maxRecDepth 100000 in
theorem sets_ok (t : Tac) : APure Try.prog 69 [.agg t.cells] (fun r => r = .int .i64 t.sets) := by
 refine APure.of_body (n := 14) tok Try.func69 rfl rfl ?_
 refine asr ?_
 refine ax 1 (o_box (sz := 8) 0 rfl rfl rfl rfl (Nat.zero_lt_succ _) rfl) ?_
 refine aa 2 ?_
 refine an ?_
 refine AGo.seq ?_
 refine asr ?_
 refine af 3 tok ?_
 refine al 4 tok ?_
 refine an ?_
 refine AGo.block ?_
 refine AGo.seq ?_
 refine asr ?_
 refine aqb ?_
 refine aa 5 ?_
 refine an ?_
 refine AGo.split 5 rfl (fun hb1 => ?_) (fun hb1 => ?_)
 ·
  refine act ?_
  refine AGo.skip ?_
  refine act ?_
  refine asr ?_
  refine af 12 tok ?_
  refine al 13 tok ?_
  refine aa 2 ?_
  refine an ?_
  refine AGo.ret ?_
  refine ⟨[_], ⟨rfl, trivial⟩, ?_, rfl⟩
  show AV.int .i64 _ = AV.int .i64 _
  congr 1
  simp [Tac.sets, setsOp, *]
 ·
  refine acf ?_
  refine asr ?_
  refine aqb ?_
  refine aa 5 ?_
  refine an ?_
  refine AGo.split 5 rfl (fun hb2 => ?_) (fun hb2 => ?_)
  ·
   refine act ?_
   refine AGo.skip ?_
   refine act ?_
   refine asr ?_
   refine af 12 tok ?_
   refine al 13 tok ?_
   refine aa 2 ?_
   refine an ?_
   refine AGo.ret ?_
   refine ⟨[_], ⟨rfl, trivial⟩, ?_, rfl⟩
   show AV.int .i64 _ = AV.int .i64 _
   congr 1
   simp [Tac.sets, setsOp, *]
  ·
   refine acf ?_
   refine asr ?_
   refine aqb ?_
   refine aa 5 ?_
   refine an ?_
   refine AGo.split 5 rfl (fun hb3 => ?_) (fun hb3 => ?_)
   ·
    refine act ?_
    refine AGo.skip ?_
    refine act ?_
    refine asr ?_
    refine af 12 tok ?_
    refine al 13 tok ?_
    refine aa 2 ?_
    refine an ?_
    refine AGo.ret ?_
    refine ⟨[_], ⟨rfl, trivial⟩, ?_, rfl⟩
    show AV.int .i64 _ = AV.int .i64 _
    congr 1
    simp [Tac.sets, setsOp, *]
   ·
    refine acf ?_
    refine asr ?_
    refine aqb ?_
    refine aa 5 ?_
    refine an ?_
    refine AGo.split 5 rfl (fun hb4 => ?_) (fun hb4 => ?_)
    ·
     refine act ?_
     refine AGo.skip ?_
     refine act ?_
     refine asr ?_
     refine af 12 tok ?_
     refine al 13 tok ?_
     refine aa 2 ?_
     refine an ?_
     refine AGo.ret ?_
     refine ⟨[_], ⟨rfl, trivial⟩, ?_, rfl⟩
     show AV.int .i64 _ = AV.int .i64 _
     congr 1
     simp [Tac.sets, setsOp, *]
    ·
     refine acf ?_
     refine asr ?_
     refine aqb ?_
     refine aa 5 ?_
     refine an ?_
     refine AGo.split 5 rfl (fun hb5 => ?_) (fun hb5 => ?_)
     ·
      refine act ?_
      refine AGo.skip ?_
      refine act ?_
      refine asr ?_
      refine af 12 tok ?_
      refine al 13 tok ?_
      refine aa 2 ?_
      refine an ?_
      refine AGo.ret ?_
      refine ⟨[_], ⟨rfl, trivial⟩, ?_, rfl⟩
      show AV.int .i64 _ = AV.int .i64 _
      congr 1
      simp [Tac.sets, setsOp, *]
     ·
      refine acf ?_
      refine AGo.region ?_
      refine aqb ?_
      refine aa 5 ?_
      refine an ?_
      refine AGo.split 5 rfl (fun hb6 => ?_) (fun hb6 => ?_)
      ·
       refine act ?_
       refine asr ?_
       refine af 12 tok ?_
       refine al 13 tok ?_
       refine aa 2 ?_
       refine an ?_
       refine AGo.ret ?_
       refine ⟨[_], ⟨rfl, trivial⟩, ?_, rfl⟩
       show AV.int .i64 _ = AV.int .i64 _
       congr 1
       simp [Tac.sets, setsOp, *]
      ·
       refine acf ?_
       refine AGo.skip ?_
       refine asr ?_
       refine aa 2 ?_
       refine an ?_
       refine AGo.ret ?_
       refine ⟨[_], ⟨rfl, trivial⟩, ?_, rfl⟩
       show AV.int .i64 _ = AV.int .i64 _
       congr 1
       simp [Tac.sets, setsOp, *]
set_option maxRecDepth 100000 in
theorem uses_ok (t : Tac) : APure Try.prog 70 [.agg t.cells] (fun r => r = intsAV t.uses) := by
 refine APure.of_body (n := 21) tok Try.func70 rfl rfl ?_
 refine asr ?_
 refine ax 1 (o_box (sz := 8) 0 rfl rfl rfl rfl (Nat.zero_lt_succ _) rfl) ?_
 refine aa 2 ?_
 refine an ?_
 refine AGo.seq ?_
 refine asr ?_
 refine af 3 tok ?_
 refine al 4 tok ?_
 refine an ?_
 refine AGo.block ?_
 refine AGo.seq ?_
 refine asr ?_
 refine aqb ?_
 refine aa 5 ?_
 refine an ?_
 refine AGo.split 5 rfl (fun hb1 => ?_) (fun hb1 => ?_)
 ·
  refine act ?_
  refine AGo.skip ?_
  refine act ?_
  refine asr ?_
  refine af 10 tok ?_
  refine al 11 tok ?_
  refine ax 12 (o_lit' tok rfl rfl rfl rfl rfl rfl (by decide) rfl rfl rfl rfl rfl rfl) ?_
  refine aa 2 ?_
  refine an ?_
  refine AGo.ret ?_
  refine ⟨[_], ⟨rfl, trivial⟩, ?_, rfl⟩
  show AV.lst false _ = _
  simp [Tac.uses, use1, use2, intsAV, partVals, AV.cells, *]
 ·
  refine acf ?_
  refine asr ?_
  refine aqb ?_
  refine aa 5 ?_
  refine an ?_
  refine AGo.split 5 rfl (fun hb2 => ?_) (fun hb2 => ?_)
  ·
   refine act ?_
   refine AGo.skip ?_
   refine act ?_
   refine asr ?_
   refine af 10 tok ?_
   refine al 11 tok ?_
   refine ax 12 (o_lit' tok rfl rfl rfl rfl rfl rfl (by decide) rfl rfl rfl rfl rfl rfl) ?_
   refine aa 2 ?_
   refine an ?_
   refine AGo.ret ?_
   refine ⟨[_], ⟨rfl, trivial⟩, ?_, rfl⟩
   show AV.lst false _ = _
   simp [Tac.uses, use1, use2, intsAV, partVals, AV.cells, *]
  ·
   refine acf ?_
   refine asr ?_
   refine aqb ?_
   refine aa 5 ?_
   refine an ?_
   refine AGo.split 5 rfl (fun hb3 => ?_) (fun hb3 => ?_)
   ·
    refine act ?_
    refine AGo.skip ?_
    refine act ?_
    refine asr ?_
    refine af 10 tok ?_
    refine al 11 tok ?_
    refine ax 12 (o_lit' tok rfl rfl rfl rfl rfl rfl (by decide) rfl rfl rfl rfl rfl rfl) ?_
    refine aa 2 ?_
    refine an ?_
    refine AGo.ret ?_
    refine ⟨[_], ⟨rfl, trivial⟩, ?_, rfl⟩
    show AV.lst false _ = _
    simp [Tac.uses, use1, use2, intsAV, partVals, AV.cells, *]
   ·
    refine acf ?_
    refine AGo.region ?_
    refine aqb ?_
    refine aa 5 ?_
    refine an ?_
    refine AGo.split 5 rfl (fun hb4 => ?_) (fun hb4 => ?_)
    ·
     refine act ?_
     refine asr ?_
     refine af 10 tok ?_
     refine al 11 tok ?_
     refine ax 12 (o_lit' tok rfl rfl rfl rfl rfl rfl (by decide) rfl rfl rfl rfl rfl rfl) ?_
     refine aa 2 ?_
     refine an ?_
     refine AGo.ret ?_
     refine ⟨[_], ⟨rfl, trivial⟩, ?_, rfl⟩
     show AV.lst false _ = _
     simp [Tac.uses, use1, use2, intsAV, partVals, AV.cells, *]
    ·
     refine acf ?_
     refine AGo.seq ?_
     refine asr ?_
     refine aqb ?_
     refine aa 13 ?_
     refine an ?_
     refine AGo.split 13 rfl (fun hb5 => ?_) (fun hb5 => ?_)
     ·
      refine act ?_
      refine AGo.skip ?_
      refine act ?_
      refine asr ?_
      refine af 16 tok ?_
      refine al 17 tok ?_
      refine af 18 tok ?_
      refine al 19 tok ?_
      refine ax 20 (o_lit' tok rfl rfl rfl rfl rfl rfl (by decide) rfl rfl rfl rfl rfl rfl) ?_
      refine aa 2 ?_
      refine an ?_
      refine AGo.ret ?_
      refine ⟨[_], ⟨rfl, trivial⟩, ?_, rfl⟩
      show AV.lst false _ = _
      simp [Tac.uses, use1, use2, intsAV, partVals, AV.cells, *]
     ·
      refine acf ?_
      refine AGo.region ?_
      refine aqb ?_
      refine aa 13 ?_
      refine an ?_
      refine AGo.split 13 rfl (fun hb6 => ?_) (fun hb6 => ?_)
      ·
       refine act ?_
       refine asr ?_
       refine af 16 tok ?_
       refine al 17 tok ?_
       refine af 18 tok ?_
       refine al 19 tok ?_
       refine ax 20 (o_lit' tok rfl rfl rfl rfl rfl rfl (by decide) rfl rfl rfl rfl rfl rfl) ?_
       refine aa 2 ?_
       refine an ?_
       refine AGo.ret ?_
       refine ⟨[_], ⟨rfl, trivial⟩, ?_, rfl⟩
       show AV.lst false _ = _
       simp [Tac.uses, use1, use2, intsAV, partVals, AV.cells, *]
      ·
       refine acf ?_
       refine AGo.skip ?_
       refine asr ?_
       refine aa 2 ?_
       refine an ?_
       refine AGo.ghost (.empty 2 rfl) ?_
       refine AGo.ret ?_
       refine ⟨[_], ⟨rfl, trivial⟩, ?_, rfl⟩
       show AV.lst false _ = _
       simp [Tac.uses, use1, use2, intsAV, partVals, AV.cells, *]
set_option maxRecDepth 100000 in
theorem within_ok (i j : Int) : APure Try.prog 68 [.int .i64 i, .int .i64 j] (fun r => r = .bool (within i j)) := by
 refine APure.of_body (n := 12) tok Try.func68 rfl rfl ?_
 refine asr ?_
 refine aa 4 ?_
 refine an ?_
 refine asr ?_
 refine am 5 ?_
 refine aqb ?_
 refine am 7 ?_
 refine AOps.split 7 rfl (fun hb1 => ?_) (fun hb1 => ?_)
 ·
  refine am 8 ?_
  refine am 9 ?_
  refine aqb ?_
  refine apt ?_
  refine aa 4 ?_
  refine an ?_
  refine AGo.ret ?_
  refine ⟨[_], ⟨rfl, trivial⟩, ?_, rfl⟩
  show AV.bool _ = AV.bool _
  congr 1
  simp_all [within] <;> omega
 ·
  iterate 3 refine ak _ ?_
  refine apf ?_
  refine aa 4 ?_
  refine an ?_
  refine AGo.ret ?_
  refine ⟨[_], ⟨rfl, trivial⟩, ?_, rfl⟩
  show AV.bool _ = AV.bool _
  congr 1
  simp_all [within] <;> omega
set_option maxRecDepth 100000 in
theorem ends_ok (b : Block) (blocks regs : Int) : APure Try.prog 51 [.agg b.cells, .int .i64 blocks, .int .i64 regs] (fun r => r = .bool (b.ends blocks regs)) := by
 refine APure.of_body (n := 61) tok Try.func51 rfl rfl ?_
 refine asr ?_
 refine ax 3 (o_box (sz := 5) 0 rfl rfl rfl rfl (Nat.zero_lt_succ _) rfl) ?_
 refine aa 6 ?_
 refine an ?_
 refine AGo.seq ?_
 refine asr ?_
 refine af 7 tok ?_
 refine al 8 tok ?_
 refine an ?_
 refine AGo.block ?_
 refine asr ?_
 refine aqb ?_
 refine aa 9 ?_
 refine an ?_
 refine AGo.split 9 rfl (fun hb1 => ?_) (fun hb1 => ?_)
 ·
  refine act ?_
  refine asr ?_
  refine af 11 tok ?_
  refine al 12 tok ?_
  refine am 13 ?_
  refine ax 14 (o_pure rfl Try.func68 (by kernel_rfl) rfl rfl rfl (within_ok _ _)) ?_
  refine am 15 ?_
  refine AOps.split 15 rfl (fun hb2 => ?_) (fun hb2 => ?_)
  ·
   refine af 16 tok ?_
   refine al 17 tok ?_
   refine aqb ?_
   refine apt ?_
   refine am 20 ?_
   refine AOps.split 20 rfl (fun hb3 => ?_) (fun hb3 => ?_)
   ·
    refine af 21 tok ?_
    refine al 22 tok ?_
    refine aqb ?_
    refine apt ?_
    refine aa 6 ?_
    refine an ?_
    refine AGo.ret ?_
    refine ⟨[_], ⟨rfl, trivial⟩, ?_, rfl⟩
    show AV.bool _ = AV.bool _
    congr 1
    simp_all [Block.ends]
   ·
    iterate 3 refine ak _ ?_
    refine apf ?_
    refine aa 6 ?_
    refine an ?_
    refine AGo.ret ?_
    refine ⟨[_], ⟨rfl, trivial⟩, ?_, rfl⟩
    show AV.bool _ = AV.bool _
    congr 1
    simp_all [Block.ends]
  ·
   iterate 3 refine ak _ ?_
   refine apf ?_
   refine am 20 ?_
   iterate 3 refine ak _ ?_
   refine apf ?_
   refine aa 6 ?_
   refine an ?_
   refine AGo.ret ?_
   refine ⟨[_], ⟨rfl, trivial⟩, ?_, rfl⟩
   show AV.bool _ = AV.bool _
   congr 1
   simp_all [Block.ends]
 ·
  refine acf ?_
  refine asr ?_
  refine aqb ?_
  refine aa 25 ?_
  refine an ?_
  refine AGo.split 25 rfl (fun hb4 => ?_) (fun hb4 => ?_)
  ·
   refine act ?_
   refine asr ?_
   refine af 27 tok ?_
   refine al 28 tok ?_
   refine am 29 ?_
   refine ax 30 (o_pure rfl Try.func68 (by kernel_rfl) rfl rfl rfl (within_ok _ _)) ?_
   refine am 31 ?_
   refine AOps.split 31 rfl (fun hb5 => ?_) (fun hb5 => ?_)
   ·
    refine af 32 tok ?_
    refine al 33 tok ?_
    refine am 34 ?_
    refine ax 35 (o_pure rfl Try.func68 (by kernel_rfl) rfl rfl rfl (within_ok _ _)) ?_
    refine apt ?_
    refine am 37 ?_
    refine AOps.split 37 rfl (fun hb6 => ?_) (fun hb6 => ?_)
    ·
     refine af 38 tok ?_
     refine al 39 tok ?_
     refine am 40 ?_
     refine ax 41 (o_pure rfl Try.func68 (by kernel_rfl) rfl rfl rfl (within_ok _ _)) ?_
     refine apt ?_
     refine aa 6 ?_
     refine an ?_
     refine AGo.ret ?_
     refine ⟨[_], ⟨rfl, trivial⟩, ?_, rfl⟩
     show AV.bool _ = AV.bool _
     congr 1
     simp_all [Block.ends]
    ·
     iterate 4 refine ak _ ?_
     refine apf ?_
     refine aa 6 ?_
     refine an ?_
     refine AGo.ret ?_
     refine ⟨[_], ⟨rfl, trivial⟩, ?_, rfl⟩
     show AV.bool _ = AV.bool _
     congr 1
     simp_all [Block.ends]
   ·
    iterate 4 refine ak _ ?_
    refine apf ?_
    refine am 37 ?_
    iterate 4 refine ak _ ?_
    refine apf ?_
    refine aa 6 ?_
    refine an ?_
    refine AGo.ret ?_
    refine ⟨[_], ⟨rfl, trivial⟩, ?_, rfl⟩
    show AV.bool _ = AV.bool _
    congr 1
    simp_all [Block.ends]
  ·
   refine acf ?_
   refine AGo.skip ?_
   refine asr ?_
   refine af 43 tok ?_
   refine al 44 tok ?_
   refine aqb ?_
   refine am 46 ?_
   refine AOps.split 46 rfl (fun hb7 => ?_) (fun hb7 => ?_)
   ·
    refine af 47 tok ?_
    refine al 48 tok ?_
    refine aqb ?_
    refine apt ?_
    refine am 51 ?_
    refine AOps.split 51 rfl (fun hb8 => ?_) (fun hb8 => ?_)
    ·
     refine af 52 tok ?_
     refine al 53 tok ?_
     refine aqb ?_
     refine apt ?_
     refine am 56 ?_
     refine AOps.split 56 rfl (fun hb9 => ?_) (fun hb9 => ?_)
     ·
      refine af 57 tok ?_
      refine al 58 tok ?_
      refine aqb ?_
      refine apt ?_
      refine aa 6 ?_
      refine an ?_
      refine AGo.ret ?_
      refine ⟨[_], ⟨rfl, trivial⟩, ?_, rfl⟩
      show AV.bool _ = AV.bool _
      congr 1
      simp_all [Block.ends]
     ·
      iterate 3 refine ak _ ?_
      refine apf ?_
      refine aa 6 ?_
      refine an ?_
      refine AGo.ret ?_
      refine ⟨[_], ⟨rfl, trivial⟩, ?_, rfl⟩
      show AV.bool _ = AV.bool _
      congr 1
      simp_all [Block.ends]
    ·
     iterate 3 refine ak _ ?_
     refine apf ?_
     refine am 56 ?_
     iterate 3 refine ak _ ?_
     refine apf ?_
     refine aa 6 ?_
     refine an ?_
     refine AGo.ret ?_
     refine ⟨[_], ⟨rfl, trivial⟩, ?_, rfl⟩
     show AV.bool _ = AV.bool _
     congr 1
     simp_all [Block.ends]
   ·
    iterate 3 refine ak _ ?_
    refine apf ?_
    refine am 51 ?_
    iterate 3 refine ak _ ?_
    refine apf ?_
    refine am 56 ?_
    iterate 3 refine ak _ ?_
    refine apf ?_
    refine aa 6 ?_
    refine an ?_
    refine AGo.ret ?_
    refine ⟨[_], ⟨rfl, trivial⟩, ?_, rfl⟩
    show AV.bool _ = AV.bool _
    congr 1
    simp_all [Block.ends]
set_option maxRecDepth 100000 in
theorem fits_ok (t : Tac) (f regs words : Int) (hw : 0 ≤ words) (hw2 : words ≤ 1048576) : APure Try.prog 52 [.agg t.cells, .int .i64 f, .int .i64 regs, .int .i64 words] (fun r => r = .bool (t.fits f regs words)) := by
 refine APure.of_body (n := 166) tok Try.func52 rfl rfl ?_
 refine asr ?_
 refine ax 4 (o_box (sz := 8) 0 rfl rfl rfl rfl (Nat.zero_lt_succ _) rfl) ?_
 refine aa 8 ?_
 refine an ?_
 refine AGo.seq ?_
 refine asr ?_
 refine af 12 tok ?_
 refine al 13 tok ?_
 refine aqb ?_
 refine am 15 ?_
 refine AOps.split 15 rfl (fun hb1 => ?_) (fun hb1 => ?_)
 ·
  iterate 3 refine ak _ ?_
  refine apt ?_
  refine an ?_
  refine act ?_
  refine asr ?_
  refine aa 8 ?_
  refine an ?_
  refine AGo.ret ?_
  refine ⟨[_], ⟨rfl, trivial⟩, ?_, rfl⟩
  show AV.bool _ = AV.bool _
  congr 1
  exact (fits_op (by simp_all <;> omega)).symm
 ·
  refine af 16 tok ?_
  refine al 17 tok ?_
  refine aqb ?_
  refine apf ?_
  refine an ?_
  refine AGo.split 19 rfl (fun hb2 => ?_) (fun hb2 => ?_)
  ·
   refine act ?_
   refine asr ?_
   refine aa 8 ?_
   refine an ?_
   refine AGo.ret ?_
   refine ⟨[_], ⟨rfl, trivial⟩, ?_, rfl⟩
   show AV.bool _ = AV.bool _
   congr 1
   exact (fits_op (by simp_all <;> omega)).symm
  ·
   refine acf ?_
   refine AGo.skip ?_
   refine asr ?_
   refine af 20 tok ?_
   refine al 21 tok ?_
   refine aq 22 (q_build tok rfl rfl rfl rfl rfl (by decide) rfl rfl rfl) ?_
   refine ax 9 (o_alloc tok 1 rfl rfl rfl rfl (Nat.zero_lt_succ _) rfl) ?_
   refine AOps.w rfl rfl (o_store tok rfl rfl rfl rfl rfl rfl rfl rfl rfl (by decide) rfl z30q) ?_
   refine an ?_
   refine AGo.seq ?_
   refine AGo.join (γ := Int) (fun d => ⟨166, (eput (eput (eput (eput (eput eNew 1 (.int .i64 f)) 2 (.int .i64 regs)) 3 (.int .i64 words)) 4 (.ptr 0 1 0 0)) 9 (.ptr 1 1 0 0)), (hput (hput (hFrom 2) 0 (.row false 8 [t.cells])) 1 (.row false 8 [[.int .i64 t.op, .int .i64 d, .int .i64 0, .int .i64 0, .int .i64 0, .int .i64 0, .int .i64 0, .int .u32 0]]))⟩) (fun d => (!setsOp t.op || within t.d regs) = true ∧ d = bif setsOp t.op then t.d else 0) ?_ ?_
   ·
    refine asr ?_
    refine al 23 tok ?_
    refine ax 24 (o_pure rfl Try.func69 (by kernel_rfl) rfl rfl rfl (sets_ok _)) ?_
    refine aqb ?_
    refine am 26 ?_
    refine AOps.split 26 rfl (fun hb3 => ?_) (fun hb3 => ?_)
    ·
     iterate 3 refine ak _ ?_
     refine apt ?_
     refine am 31 ?_
     iterate 3 refine ak _ ?_
     refine apt ?_
     refine am 36 ?_
     iterate 3 refine ak _ ?_
     refine apt ?_
     refine am 41 ?_
     iterate 3 refine ak _ ?_
     refine apt ?_
     refine am 46 ?_
     iterate 3 refine ak _ ?_
     refine apt ?_
     refine am 51 ?_
     iterate 3 refine ak _ ?_
     refine apt ?_
     refine an ?_
     refine act ?_
     refine asr ?_
     refine af 56 tok ?_
     refine al 57 tok ?_
     refine af 58 tok ?_
     refine AOps.w rfl rfl (o_store tok rfl rfl rfl rfl rfl rfl rfl rfl rfl (by decide) rfl z30q) ?_
     refine an ?_
     refine asr ?_
     refine af 59 tok ?_
     refine al 60 tok ?_
     refine am 61 ?_
     refine ax 62 (o_pure rfl Try.func68 (by kernel_rfl) rfl rfl rfl (within_ok _ _)) ?_
     refine aq 63 (q_not rfl rfl) ?_
     refine an ?_
     refine AGo.split 63 rfl (fun hb4 => ?_) (fun hb4 => ?_)
     ·
      refine act ?_
      refine asr ?_
      refine aa 8 ?_
      refine an ?_
      refine AGo.ret ?_
      refine ⟨[_], ⟨rfl, trivial⟩, ?_, rfl⟩
      show AV.bool _ = AV.bool _
      congr 1
      exact (fits_d z28q z33q).symm
     ·
      refine acf ?_
      refine AGo.skip ?_
      exact ⟨t.d, Sub.mk' z26q z9q, ⟨by have h := ‹(!within t.d regs) = false›; simp at h; simp [h], by first | (simp [setsOp, *]; done) | simp [sets_pos ‹_›]⟩⟩
    ·
     refine af 27 tok ?_
     refine al 28 tok ?_
     refine aqb ?_
     refine apf ?_
     refine am 31 ?_
     refine AOps.split 31 rfl (fun hb5 => ?_) (fun hb5 => ?_)
     ·
      iterate 3 refine ak _ ?_
      refine apt ?_
      refine am 36 ?_
      iterate 3 refine ak _ ?_
      refine apt ?_
      refine am 41 ?_
      iterate 3 refine ak _ ?_
      refine apt ?_
      refine am 46 ?_
      iterate 3 refine ak _ ?_
      refine apt ?_
      refine am 51 ?_
      iterate 3 refine ak _ ?_
      refine apt ?_
      refine an ?_
      refine act ?_
      refine asr ?_
      refine af 56 tok ?_
      refine al 57 tok ?_
      refine af 58 tok ?_
      refine AOps.w rfl rfl (o_store tok rfl rfl rfl rfl rfl rfl rfl rfl rfl (by decide) rfl z30q) ?_
      refine an ?_
      refine asr ?_
      refine af 59 tok ?_
      refine al 60 tok ?_
      refine am 61 ?_
      refine ax 62 (o_pure rfl Try.func68 (by kernel_rfl) rfl rfl rfl (within_ok _ _)) ?_
      refine aq 63 (q_not rfl rfl) ?_
      refine an ?_
      refine AGo.split 63 rfl (fun hb6 => ?_) (fun hb6 => ?_)
      ·
       refine act ?_
       refine asr ?_
       refine aa 8 ?_
       refine an ?_
       refine AGo.ret ?_
       refine ⟨[_], ⟨rfl, trivial⟩, ?_, rfl⟩
       show AV.bool _ = AV.bool _
       congr 1
       exact (fits_d z28q z33q).symm
      ·
       refine acf ?_
       refine AGo.skip ?_
       exact ⟨t.d, Sub.mk' z26q z9q, ⟨by have h := ‹(!within t.d regs) = false›; simp at h; simp [h], by first | (simp [setsOp, *]; done) | simp [sets_pos ‹_›]⟩⟩
     ·
      refine af 32 tok ?_
      refine al 33 tok ?_
      refine aqb ?_
      refine apf ?_
      refine am 36 ?_
      refine AOps.split 36 rfl (fun hb7 => ?_) (fun hb7 => ?_)
      ·
       iterate 3 refine ak _ ?_
       refine apt ?_
       refine am 41 ?_
       iterate 3 refine ak _ ?_
       refine apt ?_
       refine am 46 ?_
       iterate 3 refine ak _ ?_
       refine apt ?_
       refine am 51 ?_
       iterate 3 refine ak _ ?_
       refine apt ?_
       refine an ?_
       refine act ?_
       refine asr ?_
       refine af 56 tok ?_
       refine al 57 tok ?_
       refine af 58 tok ?_
       refine AOps.w rfl rfl (o_store tok rfl rfl rfl rfl rfl rfl rfl rfl rfl (by decide) rfl z30q) ?_
       refine an ?_
       refine asr ?_
       refine af 59 tok ?_
       refine al 60 tok ?_
       refine am 61 ?_
       refine ax 62 (o_pure rfl Try.func68 (by kernel_rfl) rfl rfl rfl (within_ok _ _)) ?_
       refine aq 63 (q_not rfl rfl) ?_
       refine an ?_
       refine AGo.split 63 rfl (fun hb8 => ?_) (fun hb8 => ?_)
       ·
        refine act ?_
        refine asr ?_
        refine aa 8 ?_
        refine an ?_
        refine AGo.ret ?_
        refine ⟨[_], ⟨rfl, trivial⟩, ?_, rfl⟩
        show AV.bool _ = AV.bool _
        congr 1
        exact (fits_d z28q z33q).symm
       ·
        refine acf ?_
        refine AGo.skip ?_
        exact ⟨t.d, Sub.mk' z26q z9q, ⟨by have h := ‹(!within t.d regs) = false›; simp at h; simp [h], by first | (simp [setsOp, *]; done) | simp [sets_pos ‹_›]⟩⟩
      ·
       refine af 37 tok ?_
       refine al 38 tok ?_
       refine aqb ?_
       refine apf ?_
       refine am 41 ?_
       refine AOps.split 41 rfl (fun hb9 => ?_) (fun hb9 => ?_)
       ·
        iterate 3 refine ak _ ?_
        refine apt ?_
        refine am 46 ?_
        iterate 3 refine ak _ ?_
        refine apt ?_
        refine am 51 ?_
        iterate 3 refine ak _ ?_
        refine apt ?_
        refine an ?_
        refine act ?_
        refine asr ?_
        refine af 56 tok ?_
        refine al 57 tok ?_
        refine af 58 tok ?_
        refine AOps.w rfl rfl (o_store tok rfl rfl rfl rfl rfl rfl rfl rfl rfl (by decide) rfl z30q) ?_
        refine an ?_
        refine asr ?_
        refine af 59 tok ?_
        refine al 60 tok ?_
        refine am 61 ?_
        refine ax 62 (o_pure rfl Try.func68 (by kernel_rfl) rfl rfl rfl (within_ok _ _)) ?_
        refine aq 63 (q_not rfl rfl) ?_
        refine an ?_
        refine AGo.split 63 rfl (fun hb10 => ?_) (fun hb10 => ?_)
        ·
         refine act ?_
         refine asr ?_
         refine aa 8 ?_
         refine an ?_
         refine AGo.ret ?_
         refine ⟨[_], ⟨rfl, trivial⟩, ?_, rfl⟩
         show AV.bool _ = AV.bool _
         congr 1
         exact (fits_d z28q z33q).symm
        ·
         refine acf ?_
         refine AGo.skip ?_
         exact ⟨t.d, Sub.mk' z26q z9q, ⟨by have h := ‹(!within t.d regs) = false›; simp at h; simp [h], by first | (simp [setsOp, *]; done) | simp [sets_pos ‹_›]⟩⟩
       ·
        refine af 42 tok ?_
        refine al 43 tok ?_
        refine aqb ?_
        refine apf ?_
        refine am 46 ?_
        refine AOps.split 46 rfl (fun hb11 => ?_) (fun hb11 => ?_)
        ·
         iterate 3 refine ak _ ?_
         refine apt ?_
         refine am 51 ?_
         iterate 3 refine ak _ ?_
         refine apt ?_
         refine an ?_
         refine act ?_
         refine asr ?_
         refine af 56 tok ?_
         refine al 57 tok ?_
         refine af 58 tok ?_
         refine AOps.w rfl rfl (o_store tok rfl rfl rfl rfl rfl rfl rfl rfl rfl (by decide) rfl z30q) ?_
         refine an ?_
         refine asr ?_
         refine af 59 tok ?_
         refine al 60 tok ?_
         refine am 61 ?_
         refine ax 62 (o_pure rfl Try.func68 (by kernel_rfl) rfl rfl rfl (within_ok _ _)) ?_
         refine aq 63 (q_not rfl rfl) ?_
         refine an ?_
         refine AGo.split 63 rfl (fun hb12 => ?_) (fun hb12 => ?_)
         ·
          refine act ?_
          refine asr ?_
          refine aa 8 ?_
          refine an ?_
          refine AGo.ret ?_
          refine ⟨[_], ⟨rfl, trivial⟩, ?_, rfl⟩
          show AV.bool _ = AV.bool _
          congr 1
          exact (fits_d z28q z33q).symm
         ·
          refine acf ?_
          refine AGo.skip ?_
          exact ⟨t.d, Sub.mk' z26q z9q, ⟨by have h := ‹(!within t.d regs) = false›; simp at h; simp [h], by first | (simp [setsOp, *]; done) | simp [sets_pos ‹_›]⟩⟩
        ·
         refine af 47 tok ?_
         refine al 48 tok ?_
         refine aqb ?_
         refine apf ?_
         refine am 51 ?_
         refine AOps.split 51 rfl (fun hb13 => ?_) (fun hb13 => ?_)
         ·
          iterate 3 refine ak _ ?_
          refine apt ?_
          refine an ?_
          refine act ?_
          refine asr ?_
          refine af 56 tok ?_
          refine al 57 tok ?_
          refine af 58 tok ?_
          refine AOps.w rfl rfl (o_store tok rfl rfl rfl rfl rfl rfl rfl rfl rfl (by decide) rfl z30q) ?_
          refine an ?_
          refine asr ?_
          refine af 59 tok ?_
          refine al 60 tok ?_
          refine am 61 ?_
          refine ax 62 (o_pure rfl Try.func68 (by kernel_rfl) rfl rfl rfl (within_ok _ _)) ?_
          refine aq 63 (q_not rfl rfl) ?_
          refine an ?_
          refine AGo.split 63 rfl (fun hb14 => ?_) (fun hb14 => ?_)
          ·
           refine act ?_
           refine asr ?_
           refine aa 8 ?_
           refine an ?_
           refine AGo.ret ?_
           refine ⟨[_], ⟨rfl, trivial⟩, ?_, rfl⟩
           show AV.bool _ = AV.bool _
           congr 1
           exact (fits_d z28q z33q).symm
          ·
           refine acf ?_
           refine AGo.skip ?_
           exact ⟨t.d, Sub.mk' z26q z9q, ⟨by have h := ‹(!within t.d regs) = false›; simp at h; simp [h], by first | (simp [setsOp, *]; done) | simp [sets_pos ‹_›]⟩⟩
         ·
          refine af 52 tok ?_
          refine al 53 tok ?_
          refine aqb ?_
          refine apf ?_
          refine an ?_
          refine AGo.split 55 rfl (fun hb15 => ?_) (fun hb15 => ?_)
          ·
           refine act ?_
           refine asr ?_
           refine af 56 tok ?_
           refine al 57 tok ?_
           refine af 58 tok ?_
           refine AOps.w rfl rfl (o_store tok rfl rfl rfl rfl rfl rfl rfl rfl rfl (by decide) rfl z30q) ?_
           refine an ?_
           refine asr ?_
           refine af 59 tok ?_
           refine al 60 tok ?_
           refine am 61 ?_
           refine ax 62 (o_pure rfl Try.func68 (by kernel_rfl) rfl rfl rfl (within_ok _ _)) ?_
           refine aq 63 (q_not rfl rfl) ?_
           refine an ?_
           refine AGo.split 63 rfl (fun hb16 => ?_) (fun hb16 => ?_)
           ·
            refine act ?_
            refine asr ?_
            refine aa 8 ?_
            refine an ?_
            refine AGo.ret ?_
            refine ⟨[_], ⟨rfl, trivial⟩, ?_, rfl⟩
            show AV.bool _ = AV.bool _
            congr 1
            exact (fits_d z28q z33q).symm
           ·
            refine acf ?_
            refine AGo.skip ?_
            exact ⟨t.d, Sub.mk' z26q z9q, ⟨by have h := ‹(!within t.d regs) = false›; simp at h; simp [h], by first | (simp [setsOp, *]; done) | simp [sets_pos ‹_›]⟩⟩
          ·
           refine acf ?_
           refine AGo.skip ?_
           exact ⟨0, Sub.mk' z26q z9q, ⟨by simp [setsOp, *], by simp [setsOp, *]⟩⟩
   intro d ⟨hd, hdd⟩
   refine asr ?_
   refine al 64 tok ?_
   refine ax 65 (o_pure rfl Try.func70 (by kernel_rfl) rfl rfl rfl (uses_ok _)) ?_
   refine aa 10 ?_
   refine an ?_
   refine AGo.seq ?_
   refine asr ?_
   refine aa 11 ?_
   refine an ?_
   refine AGo.block ?_
   refine AGo.loopD (γ := Nat) 2 (fun j => ⟨166, (eput (eput (eput (eput (eput (eput (eput eNew 1 (.int .i64 f)) 2 (.int .i64 regs)) 3 (.int .i64 words)) 4 (.ptr 0 1 0 0)) 9 (.ptr 1 1 0 0)) 10 (intsAV t.uses)) 11 (.int .i64 (j : Int))), (hput (hput (hFrom 2) 0 (.row false 8 [t.cells])) 1 (.row false 8 [[.int .i64 t.op, .int .i64 d, .int .i64 0, .int .i64 0, .int .i64 0, .int .i64 0, .int .i64 0, .int .u32 0]]))⟩) (fun j => (t.uses.take j).all (fun r => within r regs) = true) (fun j => t.uses.length - j) 0 (Sub.mk' z26q z9q) rfl (fun _ => hput_free (hput_free (fun b hb => hFrom_free hb) rfl) rfl) ?_
   intro j hj
   refine AGo.seq ?_
   refine asr ?_
   refine am 66 ?_
   refine am 67 ?_
   refine aq 68 (q_len tok rfl rfl rfl rfl rfl) ?_
   refine aqb ?_
   refine an ?_
   refine AGo.split 69 rfl (fun hb17 => ?_) (fun hb17 => ?_)
   ·
    refine act ?_
    have hjl : j < t.uses.length := lt_of_idx hb17
    obtain ⟨u, hu⟩ := get_of_lt hjl
    refine AGo.skip ?_
    refine AGo.seq ?_
    refine AGo.block ?_
    refine asr ?_
    refine am 72 ?_
    refine am 73 ?_
    refine aq 74 (q_index_lst tok rfl rfl rfl rfl rfl rfl (Int.natCast_nonneg _) (idx_map (by assumption)) rfl) ?_
    refine al 75 tok ?_
    refine am 76 ?_
    refine ax 77 (o_pure rfl Try.func68 (by kernel_rfl) rfl rfl rfl (within_ok _ _)) ?_
    refine aq 78 (q_not rfl rfl) ?_
    refine an ?_
    refine AGo.split 78 rfl (fun hb18 => ?_) (fun hb18 => ?_)
    ·
     refine act ?_
     have hbw := hb18
     refine asr ?_
     refine aa 8 ?_
     refine an ?_
     refine AGo.ret ?_
     refine ⟨[_], ⟨rfl, trivial⟩, ?_, rfl⟩
     show AV.bool _ = AV.bool _
     congr 1
     exact (fits_use (all_bad hu (by simpa using hbw))).symm
    ·
     refine acf ?_
     have hbw := hb18
     refine AGo.skip ?_
     refine AGo.region ?_
     refine am 70 ?_
     refine aq 71 (q_inc rfl rfl hjl (Nat.le_trans (uses_len t) (by decide))) ?_
     refine aa 11 ?_
     refine an ?_
     exact ⟨j+1, Drop.mk' z17q z13q, all_succ hu hj (by simpa using hbw), by omega⟩
   ·
    refine acf ?_
    have hall := all_end hj (ge_of_idx hb17)
    refine AGo.exit ?_
    refine AGo.seq ?_
    refine AGo.join (γ := Int) (fun a => ⟨166, (eput (eput (eput (eput (eput (eput eNew 1 (.int .i64 f)) 2 (.int .i64 regs)) 3 (.int .i64 words)) 4 (.ptr 0 1 0 0)) 9 (.ptr 1 1 0 0)) 10 (intsAV t.uses)), (hput (hput (hFrom 2) 0 (.row false 8 [t.cells])) 1 (.row false 8 [[.int .i64 t.op, .int .i64 d, .int .i64 a, .int .i64 0, .int .i64 0, .int .i64 0, .int .i64 0, .int .u32 0]]))⟩) (fun a => a = bif use1 t.op || use2 t.op then t.a else 0) ?_ ?_
    ·
     refine asr ?_
     refine am 79 ?_
     refine aq 80 (q_len tok rfl rfl rfl rfl rfl) ?_
     refine aqb ?_
     refine an ?_
     refine AGo.split 81 rfl (fun hb19 => ?_) (fun hb19 => ?_)
     ·
      refine act ?_
      refine AGo.region ?_
      refine af 82 tok ?_
      refine al 83 tok ?_
      refine af 84 tok ?_
      refine AOps.w rfl rfl (o_store tok rfl rfl rfl rfl rfl rfl rfl rfl rfl (by decide) rfl z30q) ?_
      refine an ?_
      exact ⟨t.a, Sub.mk' z26q z9q, by have h3 := use12 t.op; cases h1 : use1 t.op <;> cases h2 : use2 t.op <;> simp_all [Tac.uses]⟩
     ·
      refine acf ?_
      refine AGo.skip ?_
      exact ⟨0, Sub.mk' z26q z9q, by have h3 := use12 t.op; cases h1 : use1 t.op <;> cases h2 : use2 t.op <;> simp_all [Tac.uses]⟩
    intro a haa
    refine AGo.seq ?_
    refine AGo.join (γ := Int) (fun b => ⟨166, (eput (eput (eput (eput (eput eNew 1 (.int .i64 f)) 2 (.int .i64 regs)) 3 (.int .i64 words)) 4 (.ptr 0 1 0 0)) 9 (.ptr 1 1 0 0)), (hput (hput (hFrom 2) 0 (.row false 8 [t.cells])) 1 (.row false 8 [[.int .i64 t.op, .int .i64 d, .int .i64 a, .int .i64 b, .int .i64 0, .int .i64 0, .int .i64 0, .int .u32 0]]))⟩) (fun b => b = bif use2 t.op then t.b else 0) ?_ ?_
    ·
     refine asr ?_
     refine am 85 ?_
     refine aq 86 (q_len tok rfl rfl rfl rfl rfl) ?_
     refine aqb ?_
     refine an ?_
     refine AGo.split 87 rfl (fun hb20 => ?_) (fun hb20 => ?_)
     ·
      refine act ?_
      refine AGo.region ?_
      refine af 88 tok ?_
      refine al 89 tok ?_
      refine af 90 tok ?_
      refine AOps.w rfl rfl (o_store tok rfl rfl rfl rfl rfl rfl rfl rfl rfl (by decide) rfl z30q) ?_
      refine an ?_
      exact ⟨t.b, Sub.mk' z26q z9q, by have h3 := use12 t.op; cases h1 : use1 t.op <;> cases h2 : use2 t.op <;> simp_all [Tac.uses]⟩
     ·
      refine acf ?_
      refine AGo.skip ?_
      exact ⟨0, Sub.mk' z26q z9q, by have h3 := use12 t.op; cases h1 : use1 t.op <;> cases h2 : use2 t.op <;> simp_all [Tac.uses]⟩
    intro b hbb
    refine AGo.seq ?_
    refine asr ?_
    refine af 91 tok ?_
    refine al 92 tok ?_
    refine an ?_
    refine AGo.block ?_
    refine asr ?_
    refine aqb ?_
    refine aa 93 ?_
    refine an ?_
    refine AGo.split 93 rfl (fun hb21 => ?_) (fun hb21 => ?_)
    ·
     refine act ?_
     refine AGo.region ?_
     refine af 95 tok ?_
     refine al 96 tok ?_
     refine af 97 tok ?_
     refine AOps.w rfl rfl (o_store tok rfl rfl rfl rfl rfl rfl rfl rfl rfl (by decide) rfl z30q) ?_
     refine an ?_
     refine asr ?_
     refine al 163 tok ?_
     refine al 164 tok ?_
     refine aq 165 (q_eqStruct tok false rfl rfl rfl (by kernel_rfl) rfl rfl rfl rfl rfl) ?_
     refine aa 8 ?_
     refine an ?_
     refine AGo.ret ?_
     refine ⟨[_], ⟨rfl, trivial⟩, ?_, rfl⟩
     show AV.bool _ = AV.bool _
     congr 1
     have hwr : 1 ≤ t.size → t.size ≤ 4096 → IntKind.i64.wrap (words - t.size) = words - t.size := fun h1 h2 => wrap_i64 (by omega) (by omega)
     rw [fits_same hb1 hb2 hd hall z31q]
     subst hdd haa hbb
     clear hd hj hall hwr hw hw2 hb1 hb2
     first | (simp_all [Tac.same, Tac.want, baseOp, arrOp, setsOp, use1, use2]; done) | simp [Tac.same, Tac.want, baseOp, arrOp, *]
    ·
     refine acf ?_
     refine asr ?_
     refine aqb ?_
     refine aa 98 ?_
     refine an ?_
     refine AGo.split 98 rfl (fun hb22 => ?_) (fun hb22 => ?_)
     ·
      refine act ?_
      refine asr ?_
      refine af 100 tok ?_
      refine al 101 tok ?_
      refine af 102 tok ?_
      refine AOps.w rfl rfl (o_store tok rfl rfl rfl rfl rfl rfl rfl rfl rfl (by decide) rfl z30q) ?_
      refine an ?_
      refine asr ?_
      refine af 103 tok ?_
      refine al 104 tok ?_
      refine aqb ?_
      refine am 106 ?_
      refine AOps.split 106 rfl (fun hb23 => ?_) (fun hb23 => ?_)
      ·
       iterate 3 refine ak _ ?_
       refine apt ?_
       refine an ?_
       refine act ?_
       refine asr ?_
       refine aa 8 ?_
       refine an ?_
       refine AGo.ret ?_
       refine ⟨[_], ⟨rfl, trivial⟩, ?_, rfl⟩
       show AV.bool _ = AV.bool _
       congr 1
       exact (fits_rest z31q).symm
      ·
       refine af 107 tok ?_
       refine al 108 tok ?_
       refine aqb ?_
       refine apf ?_
       refine an ?_
       refine AGo.split 110 rfl (fun hb24 => ?_) (fun hb24 => ?_)
       ·
        refine act ?_
        refine asr ?_
        refine aa 8 ?_
        refine an ?_
        refine AGo.ret ?_
        refine ⟨[_], ⟨rfl, trivial⟩, ?_, rfl⟩
        show AV.bool _ = AV.bool _
        congr 1
        exact (fits_rest z31q).symm
       ·
        refine acf ?_
        refine AGo.skip ?_
        refine asr ?_
        refine al 163 tok ?_
        refine al 164 tok ?_
        refine aq 165 (q_eqStruct tok false rfl rfl rfl (by kernel_rfl) rfl rfl rfl rfl rfl) ?_
        refine aa 8 ?_
        refine an ?_
        refine AGo.ret ?_
        refine ⟨[_], ⟨rfl, trivial⟩, ?_, rfl⟩
        show AV.bool _ = AV.bool _
        congr 1
        have hwr : 1 ≤ t.size → t.size ≤ 4096 → IntKind.i64.wrap (words - t.size) = words - t.size := fun h1 h2 => wrap_i64 (by omega) (by omega)
        rw [fits_same hb1 hb2 hd hall z31q]
        subst hdd haa hbb
        clear hd hj hall hwr hw hw2 hb1 hb2
        first | (simp_all [Tac.same, Tac.want, baseOp, arrOp, setsOp, use1, use2]; done) | simp [Tac.same, Tac.want, baseOp, arrOp, *]
     ·
      refine acf ?_
      refine AGo.seq ?_
      refine asr ?_
      refine aqb ?_
      refine aa 111 ?_
      refine an ?_
      refine AGo.split 111 rfl (fun hb25 => ?_) (fun hb25 => ?_)
      ·
       refine act ?_
       refine AGo.skip ?_
       refine act ?_
       refine asr ?_
       refine af 114 tok ?_
       refine al 115 tok ?_
       refine af 116 tok ?_
       refine AOps.w rfl rfl (o_store tok rfl rfl rfl rfl rfl rfl rfl rfl rfl (by decide) rfl z30q) ?_
       refine an ?_
       refine asr ?_
       refine af 117 tok ?_
       refine al 118 tok ?_
       refine am 119 ?_
       refine ax 120 (o_pure rfl Try.func68 (by kernel_rfl) rfl rfl rfl (within_ok _ _)) ?_
       refine aq 121 (q_not rfl rfl) ?_
       refine an ?_
       refine AGo.split 121 rfl (fun hb26 => ?_) (fun hb26 => ?_)
       ·
        refine act ?_
        refine asr ?_
        refine aa 8 ?_
        refine an ?_
        refine AGo.ret ?_
        refine ⟨[_], ⟨rfl, trivial⟩, ?_, rfl⟩
        show AV.bool _ = AV.bool _
        congr 1
        exact (fits_rest z31q).symm
       ·
        refine acf ?_
        refine AGo.skip ?_
        refine asr ?_
        refine al 163 tok ?_
        refine al 164 tok ?_
        refine aq 165 (q_eqStruct tok false rfl rfl rfl (by kernel_rfl) rfl rfl rfl rfl rfl) ?_
        refine aa 8 ?_
        refine an ?_
        refine AGo.ret ?_
        refine ⟨[_], ⟨rfl, trivial⟩, ?_, rfl⟩
        show AV.bool _ = AV.bool _
        congr 1
        have hwr : 1 ≤ t.size → t.size ≤ 4096 → IntKind.i64.wrap (words - t.size) = words - t.size := fun h1 h2 => wrap_i64 (by omega) (by omega)
        rw [fits_same hb1 hb2 hd hall z31q]
        subst hdd haa hbb
        clear hd hj hall hwr hw hw2 hb1 hb2
        first | (simp_all [Tac.same, Tac.want, baseOp, arrOp, setsOp, use1, use2]; done) | simp [Tac.same, Tac.want, baseOp, arrOp, *]
      ·
       refine acf ?_
       refine AGo.region ?_
       refine aqb ?_
       refine aa 111 ?_
       refine an ?_
       refine AGo.split 111 rfl (fun hb27 => ?_) (fun hb27 => ?_)
       ·
        refine act ?_
        refine asr ?_
        refine af 114 tok ?_
        refine al 115 tok ?_
        refine af 116 tok ?_
        refine AOps.w rfl rfl (o_store tok rfl rfl rfl rfl rfl rfl rfl rfl rfl (by decide) rfl z30q) ?_
        refine an ?_
        refine asr ?_
        refine af 117 tok ?_
        refine al 118 tok ?_
        refine am 119 ?_
        refine ax 120 (o_pure rfl Try.func68 (by kernel_rfl) rfl rfl rfl (within_ok _ _)) ?_
        refine aq 121 (q_not rfl rfl) ?_
        refine an ?_
        refine AGo.split 121 rfl (fun hb28 => ?_) (fun hb28 => ?_)
        ·
         refine act ?_
         refine asr ?_
         refine aa 8 ?_
         refine an ?_
         refine AGo.ret ?_
         refine ⟨[_], ⟨rfl, trivial⟩, ?_, rfl⟩
         show AV.bool _ = AV.bool _
         congr 1
         exact (fits_rest z31q).symm
        ·
         refine acf ?_
         refine AGo.skip ?_
         refine asr ?_
         refine al 163 tok ?_
         refine al 164 tok ?_
         refine aq 165 (q_eqStruct tok false rfl rfl rfl (by kernel_rfl) rfl rfl rfl rfl rfl) ?_
         refine aa 8 ?_
         refine an ?_
         refine AGo.ret ?_
         refine ⟨[_], ⟨rfl, trivial⟩, ?_, rfl⟩
         show AV.bool _ = AV.bool _
         congr 1
         have hwr : 1 ≤ t.size → t.size ≤ 4096 → IntKind.i64.wrap (words - t.size) = words - t.size := fun h1 h2 => wrap_i64 (by omega) (by omega)
         rw [fits_same hb1 hb2 hd hall z31q]
         subst hdd haa hbb
         clear hd hj hall hwr hw hw2 hb1 hb2
         first | (simp_all [Tac.same, Tac.want, baseOp, arrOp, setsOp, use1, use2]; done) | simp [Tac.same, Tac.want, baseOp, arrOp, *]
       ·
        refine acf ?_
        refine AGo.seq ?_
        refine asr ?_
        refine aqb ?_
        refine aa 122 ?_
        refine an ?_
        refine AGo.split 122 rfl (fun hb29 => ?_) (fun hb29 => ?_)
        ·
         refine act ?_
         refine AGo.skip ?_
         refine act ?_
         refine AGo.seq ?_
         refine AGo.draw mix ?_
         refine df 125 tok ?_
         refine dl 126 tok ?_
         refine df 127 tok ?_
         refine dl 128 tok ?_
         refine df 129 tok ?_
         refine DOps.w rfl rfl (o_store tok rfl rfl rfl rfl rfl rfl rfl rfl rfl (by decide) rfl z30q) ?_
         refine df 130 tok ?_
         refine DOps.w rfl rfl (o_store tok rfl rfl rfl rfl rfl rfl rfl rfl rfl (by decide) rfl z30q) ?_
         refine DOps.nil (by kernel_rfl) ?_
         refine asr ?_
         refine af 131 tok ?_
         refine al 132 tok ?_
         refine aqb ?_
         refine am 134 ?_
         refine AOps.split 134 rfl (fun hb30 => ?_) (fun hb30 => ?_)
         ·
          iterate 3 refine ak _ ?_
          refine apt ?_
          refine am 139 ?_
          iterate 3 refine ak _ ?_
          refine apt ?_
          refine am 144 ?_
          iterate 7 refine ak _ ?_
          refine apt ?_
          refine an ?_
          refine act ?_
          refine asr ?_
          refine aa 8 ?_
          refine an ?_
          refine AGo.ret ?_
          refine ⟨[_], ⟨rfl, trivial⟩, ?_, rfl⟩
          show AV.bool _ = AV.bool _
          congr 1
          have hwr : 1 ≤ t.size → t.size ≤ 4096 → IntKind.i64.wrap (words - t.size) = words - t.size := fun h1 h2 => wrap_i64 (by omega) (by omega)
          exact (fits_rest z31q).symm
         ·
          refine af 135 tok ?_
          refine al 136 tok ?_
          refine aqb ?_
          refine apf ?_
          refine am 139 ?_
          refine AOps.split 139 rfl (fun hb31 => ?_) (fun hb31 => ?_)
          ·
           iterate 3 refine ak _ ?_
           refine apt ?_
           refine am 144 ?_
           iterate 7 refine ak _ ?_
           refine apt ?_
           refine an ?_
           refine act ?_
           refine asr ?_
           refine aa 8 ?_
           refine an ?_
           refine AGo.ret ?_
           refine ⟨[_], ⟨rfl, trivial⟩, ?_, rfl⟩
           show AV.bool _ = AV.bool _
           congr 1
           have hwr : 1 ≤ t.size → t.size ≤ 4096 → IntKind.i64.wrap (words - t.size) = words - t.size := fun h1 h2 => wrap_i64 (by omega) (by omega)
           exact (fits_rest z31q).symm
          ·
           refine af 140 tok ?_
           refine al 141 tok ?_
           refine aqb ?_
           refine apf ?_
           refine am 144 ?_
           refine AOps.split 144 rfl (fun hb32 => ?_) (fun hb32 => ?_)
           ·
            iterate 7 refine ak _ ?_
            refine apt ?_
            refine an ?_
            refine act ?_
            refine asr ?_
            refine aa 8 ?_
            refine an ?_
            refine AGo.ret ?_
            refine ⟨[_], ⟨rfl, trivial⟩, ?_, rfl⟩
            show AV.bool _ = AV.bool _
            congr 1
            have hwr : 1 ≤ t.size → t.size ≤ 4096 → IntKind.i64.wrap (words - t.size) = words - t.size := fun h1 h2 => wrap_i64 (by omega) (by omega)
            exact (fits_rest z31q).symm
           ·
            refine af 145 tok ?_
            refine al 146 tok ?_
            refine am 147 ?_
            refine af 148 tok ?_
            refine al 149 tok ?_
            refine aqb ?_
            refine aqb ?_
            refine apf ?_
            refine an ?_
            refine AGo.split 152 rfl (fun hb33 => ?_) (fun hb33 => ?_)
            ·
             refine act ?_
             refine asr ?_
             refine aa 8 ?_
             refine an ?_
             refine AGo.ret ?_
             refine ⟨[_], ⟨rfl, trivial⟩, ?_, rfl⟩
             show AV.bool _ = AV.bool _
             congr 1
             have hwr : 1 ≤ t.size → t.size ≤ 4096 → IntKind.i64.wrap (words - t.size) = words - t.size := fun h1 h2 => wrap_i64 (by omega) (by omega)
             exact (fits_rest z31q).symm
            ·
             refine acf ?_
             refine AGo.skip ?_
             refine asr ?_
             refine al 163 tok ?_
             refine al 164 tok ?_
             refine aq 165 (q_eqStruct tok false rfl rfl rfl (by kernel_rfl) rfl rfl rfl rfl rfl) ?_
             refine aa 8 ?_
             refine an ?_
             refine AGo.ret ?_
             refine ⟨[_], ⟨rfl, trivial⟩, ?_, rfl⟩
             show AV.bool _ = AV.bool _
             congr 1
             have hwr : 1 ≤ t.size → t.size ≤ 4096 → IntKind.i64.wrap (words - t.size) = words - t.size := fun h1 h2 => wrap_i64 (by omega) (by omega)
             rw [fits_same hb1 hb2 hd hall z31q]
             subst hdd haa hbb
             clear hd hj hall hwr hw hw2 hb1 hb2
             first | (simp_all [Tac.same, Tac.want, baseOp, arrOp, setsOp, use1, use2]; done) | simp [Tac.same, Tac.want, baseOp, arrOp, *]
        ·
         refine acf ?_
         refine AGo.region ?_
         refine aqb ?_
         refine aa 122 ?_
         refine an ?_
         refine AGo.split 122 rfl (fun hb34 => ?_) (fun hb34 => ?_)
         ·
          refine act ?_
          refine AGo.seq ?_
          refine AGo.draw mix ?_
          refine df 125 tok ?_
          refine dl 126 tok ?_
          refine df 127 tok ?_
          refine dl 128 tok ?_
          refine df 129 tok ?_
          refine DOps.w rfl rfl (o_store tok rfl rfl rfl rfl rfl rfl rfl rfl rfl (by decide) rfl z30q) ?_
          refine df 130 tok ?_
          refine DOps.w rfl rfl (o_store tok rfl rfl rfl rfl rfl rfl rfl rfl rfl (by decide) rfl z30q) ?_
          refine DOps.nil (by kernel_rfl) ?_
          refine asr ?_
          refine af 131 tok ?_
          refine al 132 tok ?_
          refine aqb ?_
          refine am 134 ?_
          refine AOps.split 134 rfl (fun hb35 => ?_) (fun hb35 => ?_)
          ·
           iterate 3 refine ak _ ?_
           refine apt ?_
           refine am 139 ?_
           iterate 3 refine ak _ ?_
           refine apt ?_
           refine am 144 ?_
           iterate 7 refine ak _ ?_
           refine apt ?_
           refine an ?_
           refine act ?_
           refine asr ?_
           refine aa 8 ?_
           refine an ?_
           refine AGo.ret ?_
           refine ⟨[_], ⟨rfl, trivial⟩, ?_, rfl⟩
           show AV.bool _ = AV.bool _
           congr 1
           have hwr : 1 ≤ t.size → t.size ≤ 4096 → IntKind.i64.wrap (words - t.size) = words - t.size := fun h1 h2 => wrap_i64 (by omega) (by omega)
           exact (fits_rest z31q).symm
          ·
           refine af 135 tok ?_
           refine al 136 tok ?_
           refine aqb ?_
           refine apf ?_
           refine am 139 ?_
           refine AOps.split 139 rfl (fun hb36 => ?_) (fun hb36 => ?_)
           ·
            iterate 3 refine ak _ ?_
            refine apt ?_
            refine am 144 ?_
            iterate 7 refine ak _ ?_
            refine apt ?_
            refine an ?_
            refine act ?_
            refine asr ?_
            refine aa 8 ?_
            refine an ?_
            refine AGo.ret ?_
            refine ⟨[_], ⟨rfl, trivial⟩, ?_, rfl⟩
            show AV.bool _ = AV.bool _
            congr 1
            have hwr : 1 ≤ t.size → t.size ≤ 4096 → IntKind.i64.wrap (words - t.size) = words - t.size := fun h1 h2 => wrap_i64 (by omega) (by omega)
            exact (fits_rest z31q).symm
           ·
            refine af 140 tok ?_
            refine al 141 tok ?_
            refine aqb ?_
            refine apf ?_
            refine am 144 ?_
            refine AOps.split 144 rfl (fun hb37 => ?_) (fun hb37 => ?_)
            ·
             iterate 7 refine ak _ ?_
             refine apt ?_
             refine an ?_
             refine act ?_
             refine asr ?_
             refine aa 8 ?_
             refine an ?_
             refine AGo.ret ?_
             refine ⟨[_], ⟨rfl, trivial⟩, ?_, rfl⟩
             show AV.bool _ = AV.bool _
             congr 1
             have hwr : 1 ≤ t.size → t.size ≤ 4096 → IntKind.i64.wrap (words - t.size) = words - t.size := fun h1 h2 => wrap_i64 (by omega) (by omega)
             exact (fits_rest z31q).symm
            ·
             refine af 145 tok ?_
             refine al 146 tok ?_
             refine am 147 ?_
             refine af 148 tok ?_
             refine al 149 tok ?_
             refine aqb ?_
             refine aqb ?_
             refine apf ?_
             refine an ?_
             refine AGo.split 152 rfl (fun hb38 => ?_) (fun hb38 => ?_)
             ·
              refine act ?_
              refine asr ?_
              refine aa 8 ?_
              refine an ?_
              refine AGo.ret ?_
              refine ⟨[_], ⟨rfl, trivial⟩, ?_, rfl⟩
              show AV.bool _ = AV.bool _
              congr 1
              have hwr : 1 ≤ t.size → t.size ≤ 4096 → IntKind.i64.wrap (words - t.size) = words - t.size := fun h1 h2 => wrap_i64 (by omega) (by omega)
              exact (fits_rest z31q).symm
             ·
              refine acf ?_
              refine AGo.skip ?_
              refine asr ?_
              refine al 163 tok ?_
              refine al 164 tok ?_
              refine aq 165 (q_eqStruct tok false rfl rfl rfl (by kernel_rfl) rfl rfl rfl rfl rfl) ?_
              refine aa 8 ?_
              refine an ?_
              refine AGo.ret ?_
              refine ⟨[_], ⟨rfl, trivial⟩, ?_, rfl⟩
              show AV.bool _ = AV.bool _
              congr 1
              have hwr : 1 ≤ t.size → t.size ≤ 4096 → IntKind.i64.wrap (words - t.size) = words - t.size := fun h1 h2 => wrap_i64 (by omega) (by omega)
              rw [fits_same hb1 hb2 hd hall z31q]
              subst hdd haa hbb
              clear hd hj hall hwr hw hw2 hb1 hb2
              first | (simp_all [Tac.same, Tac.want, baseOp, arrOp, setsOp, use1, use2]; done) | simp [Tac.same, Tac.want, baseOp, arrOp, *]
         ·
          refine acf ?_
          refine asr ?_
          refine aqb ?_
          refine aa 153 ?_
          refine an ?_
          refine AGo.split 153 rfl (fun hb39 => ?_) (fun hb39 => ?_)
          ·
           refine act ?_
           refine asr ?_
           refine af 155 tok ?_
           refine al 156 tok ?_
           refine af 157 tok ?_
           refine AOps.w rfl rfl (o_store tok rfl rfl rfl rfl rfl rfl rfl rfl rfl (by decide) rfl z30q) ?_
           refine an ?_
           refine asr ?_
           refine af 158 tok ?_
           refine al 159 tok ?_
           refine am 160 ?_
           refine ax 161 (o_pure rfl Try.func68 (by kernel_rfl) rfl rfl rfl (within_ok _ _)) ?_
           refine aq 162 (q_not rfl rfl) ?_
           refine an ?_
           refine AGo.split 162 rfl (fun hb40 => ?_) (fun hb40 => ?_)
           ·
            refine act ?_
            refine asr ?_
            refine aa 8 ?_
            refine an ?_
            refine AGo.ret ?_
            refine ⟨[_], ⟨rfl, trivial⟩, ?_, rfl⟩
            show AV.bool _ = AV.bool _
            congr 1
            exact (fits_rest z31q).symm
           ·
            refine acf ?_
            refine AGo.skip ?_
            refine asr ?_
            refine al 163 tok ?_
            refine al 164 tok ?_
            refine aq 165 (q_eqStruct tok false rfl rfl rfl (by kernel_rfl) rfl rfl rfl rfl rfl) ?_
            refine aa 8 ?_
            refine an ?_
            refine AGo.ret ?_
            refine ⟨[_], ⟨rfl, trivial⟩, ?_, rfl⟩
            show AV.bool _ = AV.bool _
            congr 1
            have hwr : 1 ≤ t.size → t.size ≤ 4096 → IntKind.i64.wrap (words - t.size) = words - t.size := fun h1 h2 => wrap_i64 (by omega) (by omega)
            rw [fits_same hb1 hb2 hd hall z31q]
            subst hdd haa hbb
            clear hd hj hall hwr hw hw2 hb1 hb2
            first | (simp_all [Tac.same, Tac.want, baseOp, arrOp, setsOp, use1, use2]; done) | simp [Tac.same, Tac.want, baseOp, arrOp, *]
          ·
           refine acf ?_
           refine AGo.skip ?_
           refine asr ?_
           refine al 163 tok ?_
           refine al 164 tok ?_
           refine aq 165 (q_eqStruct tok false rfl rfl rfl (by kernel_rfl) rfl rfl rfl rfl rfl) ?_
           refine aa 8 ?_
           refine an ?_
           refine AGo.ret ?_
           refine ⟨[_], ⟨rfl, trivial⟩, ?_, rfl⟩
           show AV.bool _ = AV.bool _
           congr 1
           have hwr : 1 ≤ t.size → t.size ≤ 4096 → IntKind.i64.wrap (words - t.size) = words - t.size := fun h1 h2 => wrap_i64 (by omega) (by omega)
           rw [fits_same hb1 hb2 hd hall z31q]
           subst hdd haa hbb
           clear hd hj hall hwr hw hw2 hb1 hb2
           first | (simp_all [Tac.same, Tac.want, baseOp, arrOp, setsOp, use1, use2]; done) | simp [Tac.same, Tac.want, baseOp, arrOp, *]
set_option maxRecDepth 100000 in
theorem one_ok (f : BFunc) (number words : Int) (hw : 0 ≤ words) (hw2 : words ≤ 1048576) : APure Try.prog 32 [.agg f.cells, .int .i64 number, .int .i64 words] (fun r => r = .bool (f.one number words)) := by
 refine APure.of_body (n := 68) tok Try.func32 rfl rfl ?_
 refine AGo.seq ?_
 refine AGo.slot 0 rfl (fun H ι v => rel_bfunc) (fun hfit => ?_)
 refine AGo.region ?_
 refine ax 3 (o_box (sz := 2) 0 rfl rfl rfl rfl (Nat.zero_lt_succ _) rfl) ?_
 refine aa 6 ?_
 refine an ?_
 refine AGo.seq ?_
 refine asr ?_
 refine af 9 tok ?_
 refine al 10 tok ?_
 refine aqb ?_
 refine am 12 ?_
 refine AOps.split 12 rfl (fun hb1 => ?_) (fun hb1 => ?_)
 ·
  iterate 3 refine ak _ ?_
  refine apt ?_
  refine am 17 ?_
  iterate 4 refine ak _ ?_
  refine apt ?_
  refine an ?_
  refine act ?_
  refine asr ?_
  refine aa 6 ?_
  refine an ?_
  refine AGo.ret ?_
  refine ⟨[_], ⟨rfl, trivial⟩, ?_, rfl⟩
  show AV.bool _ = AV.bool _
  congr 1
  exact (one_bad (by simp_all <;> omega)).symm
 ·
  refine af 13 tok ?_
  refine al 14 tok ?_
  refine aqb ?_
  refine apf ?_
  refine am 17 ?_
  refine AOps.split 17 rfl (fun hb2 => ?_) (fun hb2 => ?_)
  ·
   iterate 4 refine ak _ ?_
   refine apt ?_
   refine an ?_
   refine act ?_
   refine asr ?_
   refine aa 6 ?_
   refine an ?_
   refine AGo.ret ?_
   refine ⟨[_], ⟨rfl, trivial⟩, ?_, rfl⟩
   show AV.bool _ = AV.bool _
   congr 1
   exact (one_bad (by simp_all <;> omega)).symm
  ·
   refine af 18 tok ?_
   refine al 19 tok ?_
   refine aq 20 (q_len tok rfl rfl rfl rfl rfl) ?_
   refine aqb ?_
   refine apf ?_
   refine an ?_
   refine AGo.split 22 rfl (fun hb3 => ?_) (fun hb3 => ?_)
   ·
    refine act ?_
    refine asr ?_
    refine aa 6 ?_
    refine an ?_
    refine AGo.ret ?_
    refine ⟨[_], ⟨rfl, trivial⟩, ?_, rfl⟩
    show AV.bool _ = AV.bool _
    congr 1
    exact (one_bad (by simp_all <;> omega)).symm
   ·
    refine acf ?_
    have h0 : 0 ≤ f.regs ∧ f.regs ≤ 4000 ∧ f.blocks.length ≠ 0 := by simp_all <;> omega
    refine AGo.skip ?_
    refine AGo.seq ?_
    refine asr ?_
    refine aa 7 ?_
    refine an ?_
    refine AGo.block ?_
    refine AGo.loopD (γ := Nat) 1 (fun k => ⟨68, (eput (eput (eput (eput eNew 1 (.int .i64 number)) 2 (.int .i64 words)) 3 (.ptr 0 1 0 0)) 7 (.int .i64 (k : Int))), (hput (hFrom 1) 0 (.row false 2 [f.cells]))⟩) (fun k => (f.blocks.take k).all (fun x => x.ok f.blocks.length f.regs number words) = true) (fun k => f.blocks.length - k) 0 (Sub.mk' z26q z9q) rfl (fun _ => hput_free (fun b hb => hFrom_free hb) rfl) ?_
    intro k hk
    refine AGo.seq ?_
    refine asr ?_
    refine am 23 ?_
    refine af 24 tok ?_
    refine al 25 tok ?_
    refine aq 26 (q_len tok rfl rfl rfl rfl rfl) ?_
    refine aqb ?_
    refine an ?_
    refine AGo.split 27 rfl (fun hb4 => ?_) (fun hb4 => ?_)
    ·
     refine act ?_
     have hkl : k < f.blocks.length := lt_of_idx hb4
     obtain ⟨x, hx⟩ := get_of_lt hkl
     refine AGo.skip ?_
     refine AGo.seq ?_
     refine AGo.block ?_
     refine AGo.seq ?_
     refine AGo.seq ?_
     refine AGo.draw mix ?_
     refine df 30 tok ?_
     refine dl 31 tok ?_
     refine dm 32 ?_
     refine dq 33 (q_index_lst tok rfl rfl rfl rfl rfl rfl (Int.natCast_nonneg _) (idx_map (by assumption)) rfl) ?_
     refine dl 34 tok ?_
     refine df 35 tok ?_
     refine dl 36 tok ?_
     refine dq 37 (q_len tok rfl rfl rfl rfl rfl) ?_
     refine df 38 tok ?_
     refine dl 39 tok ?_
     refine dx 40 (o_pure rfl Try.func51 (by kernel_rfl) rfl rfl rfl (ends_ok x _ _)) ?_
     refine dq 41 (q_not rfl rfl) ?_
     refine DOps.nil (by kernel_rfl) ?_
     refine AGo.split 41 rfl (fun hb5 => ?_) (fun hb5 => ?_)
     ·
      refine act ?_
      have hends : x.ends f.blocks.length f.regs = false := by simpa using hb5
      refine asr ?_
      refine aa 6 ?_
      refine an ?_
      refine AGo.ret ?_
      refine ⟨[_], ⟨rfl, trivial⟩, ?_, rfl⟩
      show AV.bool _ = AV.bool _
      congr 1
      rw [one_all h0.1 h0.2.1 h0.2.2, all_bad hx (by simp [Block.ok, hends])]
     ·
      refine acf ?_
      have hends : x.ends f.blocks.length f.regs = true := by simpa using hb5
      refine AGo.skip ?_
      refine asr ?_
      refine aa 8 ?_
      refine an ?_
      refine AGo.block ?_
      refine AGo.loopD (γ := Nat) 1 (fun j => ⟨68, (eput (eput (eput (eput (eput eNew 1 (.int .i64 number)) 2 (.int .i64 words)) 3 (.ptr 0 1 0 0)) 7 (.int .i64 (k : Int))) 8 (.int .i64 (j : Int))), (hput (hFrom 1) 0 (.row false 2 [f.cells]))⟩) (fun j => (x.ins.take j).all (fun t => t.fits number f.regs words) = true) (fun j => x.ins.length - j) 0 (Sub.mk' z26q z9q) rfl (fun _ => hput_free (fun b hb => hFrom_free hb) rfl) ?_
      intro j hj
      refine AGo.seq ?_
      refine asr ?_
      refine am 42 ?_
      refine af 43 tok ?_
      refine al 44 tok ?_
      refine am 45 ?_
      refine aq 46 (q_index_lst tok rfl rfl rfl rfl rfl rfl (Int.natCast_nonneg _) (idx_map (by assumption)) rfl) ?_
      refine af 47 tok ?_
      refine al 48 tok ?_
      refine aq 49 (q_len tok rfl rfl rfl rfl rfl) ?_
      refine aqb ?_
      refine an ?_
      refine AGo.split 50 rfl (fun hb6 => ?_) (fun hb6 => ?_)
      ·
       refine act ?_
       have hjl : j < x.ins.length := lt_of_idx hb6
       obtain ⟨u, hu⟩ := get_of_lt hjl
       refine AGo.skip ?_
       refine AGo.seq ?_
       refine AGo.block ?_
       refine AGo.seq ?_
       refine AGo.draw mix ?_
       refine df 53 tok ?_
       refine dl 54 tok ?_
       refine dm 55 ?_
       refine dq 56 (q_index_lst tok rfl rfl rfl rfl rfl rfl (Int.natCast_nonneg _) (idx_map (by assumption)) rfl) ?_
       refine df 57 tok ?_
       refine dl 58 tok ?_
       refine dm 59 ?_
       refine dq 60 (q_index_lst tok rfl rfl rfl rfl rfl rfl (Int.natCast_nonneg _) (idx_map (by assumption)) rfl) ?_
       refine dl 61 tok ?_
       refine dm 62 ?_
       refine df 63 tok ?_
       refine dl 64 tok ?_
       refine dm 65 ?_
       refine dx 66 (o_pure rfl Try.func52 (by kernel_rfl) rfl rfl rfl (fits_ok u _ _ _ hw hw2)) ?_
       refine dq 67 (q_not rfl rfl) ?_
       refine DOps.nil (by kernel_rfl) ?_
       refine AGo.split 67 rfl (fun hb7 => ?_) (fun hb7 => ?_)
       ·
        refine act ?_
        have hbw := hb7
        refine asr ?_
        refine aa 6 ?_
        refine an ?_
        refine AGo.ret ?_
        refine ⟨[_], ⟨rfl, trivial⟩, ?_, rfl⟩
        show AV.bool _ = AV.bool _
        congr 1
        rw [one_all h0.1 h0.2.1 h0.2.2, all_bad hx (by simp only [Block.ok, all_bad (p := fun t => Tac.fits t number f.regs words) hu (by simpa using hbw), Bool.and_false])]
       ·
        refine acf ?_
        have hbw := hb7
        refine AGo.skip ?_
        refine AGo.region ?_
        refine am 51 ?_
        refine aq 52 (q_inc rfl rfl hjl (hfit.2 x (List.mem_of_getElem? hx))) ?_
        refine aa 8 ?_
        refine an ?_
        exact ⟨j+1, Drop.mk' z17q z13q, all_succ hu hj (by simpa using hbw), by omega⟩
      ·
       refine acf ?_
       have hins := all_end hj (ge_of_idx hb6)
       refine AGo.exit ?_
       refine AGo.region ?_
       refine am 28 ?_
       refine aq 29 (q_inc rfl rfl hkl hfit.1) ?_
       refine aa 7 ?_
       refine an ?_
       exact ⟨k+1, Drop.mk' z17q z13q, all_succ hx hk (by simp [Block.ok, hends, hins]), by omega⟩
    ·
     refine acf ?_
     have hall := all_end hk (ge_of_idx hb4)
     refine AGo.exit ?_
     refine asr ?_
     refine aa 6 ?_
     refine an ?_
     refine AGo.ret ?_
     refine ⟨[_], ⟨rfl, trivial⟩, ?_, rfl⟩
     show AV.bool _ = AV.bool _
     congr 1
     rw [one_all h0.1 h0.2.1 h0.2.2, hall]
set_option maxRecDepth 100000 in
theorem right_ok (b : Blocks) : APure Try.prog 15 [.agg b.cells] (fun r => r = .bool b.right) := by
 refine APure.of_body (n := 35) tok Try.func15 rfl rfl ?_
 refine AGo.seq ?_
 refine AGo.slot 0 rfl (fun H ι v => rel_prog) (fun hfit => ?_)
 refine AGo.region ?_
 refine ax 1 (o_box (sz := 2) 0 rfl rfl rfl rfl (Nat.zero_lt_succ _) rfl) ?_
 refine aa 2 ?_
 refine an ?_
 refine AGo.seq ?_
 refine asr ?_
 refine af 4 tok ?_
 refine al 5 tok ?_
 refine aqb ?_
 refine am 7 ?_
 refine AOps.split 7 rfl (fun hb1 => ?_) (fun hb1 => ?_)
 ·
  iterate 3 refine ak _ ?_
  refine apt ?_
  refine am 12 ?_
  iterate 4 refine ak _ ?_
  refine apt ?_
  refine an ?_
  refine act ?_
  refine asr ?_
  refine aa 2 ?_
  refine an ?_
  refine AGo.ret ?_
  refine ⟨[_], ⟨rfl, trivial⟩, ?_, rfl⟩
  show AV.bool _ = AV.bool _
  congr 1
  exact (right_bad (by simp_all <;> omega)).symm
 ·
  refine af 8 tok ?_
  refine al 9 tok ?_
  refine aqb ?_
  refine apf ?_
  refine am 12 ?_
  refine AOps.split 12 rfl (fun hb2 => ?_) (fun hb2 => ?_)
  ·
   iterate 4 refine ak _ ?_
   refine apt ?_
   refine an ?_
   refine act ?_
   refine asr ?_
   refine aa 2 ?_
   refine an ?_
   refine AGo.ret ?_
   refine ⟨[_], ⟨rfl, trivial⟩, ?_, rfl⟩
   show AV.bool _ = AV.bool _
   congr 1
   exact (right_bad (by simp_all <;> omega)).symm
  ·
   refine af 13 tok ?_
   refine al 14 tok ?_
   refine aq 15 (q_len tok rfl rfl rfl rfl rfl) ?_
   refine aqb ?_
   refine apf ?_
   refine an ?_
   refine AGo.split 17 rfl (fun hb3 => ?_) (fun hb3 => ?_)
   ·
    refine act ?_
    refine asr ?_
    refine aa 2 ?_
    refine an ?_
    refine AGo.ret ?_
    refine ⟨[_], ⟨rfl, trivial⟩, ?_, rfl⟩
    show AV.bool _ = AV.bool _
    congr 1
    exact (right_bad (by simp_all <;> omega)).symm
   ·
    refine acf ?_
    have h0 : 0 ≤ b.words ∧ b.words ≤ 1048576 ∧ b.funcs.length ≠ 0 := by simp_all <;> omega
    refine AGo.skip ?_
    refine AGo.seq ?_
    refine asr ?_
    refine aa 3 ?_
    refine an ?_
    refine AGo.block ?_
    refine AGo.loopD (γ := Nat) 1 (fun k => ⟨35, (eput (eput eNew 1 (.ptr 0 1 0 0)) 3 (.int .i64 (k : Int))), (hput (hFrom 1) 0 (.row false 2 [b.cells]))⟩) (fun k => (b.funcs.zipIdx.take k).all (fun p => p.1.one (p.2 : Int) b.words) = true) (fun k => b.funcs.length - k) 0 (Sub.mk' z26q z9q) rfl (fun _ => hput_free (fun b hb => hFrom_free hb) rfl) ?_
    intro k hk
    refine AGo.seq ?_
    refine asr ?_
    refine am 18 ?_
    refine af 19 tok ?_
    refine al 20 tok ?_
    refine aq 21 (q_len tok rfl rfl rfl rfl rfl) ?_
    refine aqb ?_
    refine an ?_
    refine AGo.split 22 rfl (fun hb4 => ?_) (fun hb4 => ?_)
    ·
     refine act ?_
     have hkl : k < b.funcs.length := lt_of_idx hb4
     obtain ⟨x, hx⟩ := get_of_lt hkl
     refine AGo.skip ?_
     refine AGo.seq ?_
     refine AGo.block ?_
     refine AGo.seq ?_
     refine AGo.draw mix ?_
     refine df 25 tok ?_
     refine dl 26 tok ?_
     refine dm 27 ?_
     refine dq 28 (q_index_lst tok rfl rfl rfl rfl rfl rfl (Int.natCast_nonneg _) (idx_map (by assumption)) rfl) ?_
     refine dl 29 tok ?_
     refine dm 30 ?_
     refine df 31 tok ?_
     refine dl 32 tok ?_
     refine dx 33 (o_pure rfl Try.func32 (by kernel_rfl) rfl rfl rfl (one_ok x _ _ h0.1 h0.2.1)) ?_
     refine dq 34 (q_not rfl rfl) ?_
     refine DOps.nil (by kernel_rfl) ?_
     refine AGo.split 34 rfl (fun hb5 => ?_) (fun hb5 => ?_)
     ·
      refine act ?_
      have hone := hb5
      refine asr ?_
      refine aa 2 ?_
      refine an ?_
      refine AGo.ret ?_
      refine ⟨[_], ⟨rfl, trivial⟩, ?_, rfl⟩
      show AV.bool _ = AV.bool _
      congr 1
      rw [right_all h0.1 h0.2.1 h0.2.2, all_bad (zipIdx_get hx) (by simpa using hone)]
     ·
      refine acf ?_
      have hone := hb5
      refine AGo.skip ?_
      refine AGo.region ?_
      refine am 23 ?_
      refine aq 24 (q_inc rfl rfl hkl hfit.1) ?_
      refine aa 3 ?_
      refine an ?_
      exact ⟨k+1, Drop.mk' z17q z13q, all_succ (zipIdx_get hx) hk (by simpa using hone), by omega⟩
    ·
     refine acf ?_
     have hall := all_end hk (by rw [List.length_zipIdx]; exact ge_of_idx hb4)
     refine AGo.exit ?_
     refine asr ?_
     refine aa 2 ?_
     refine an ?_
     refine AGo.ret ?_
     refine ⟨[_], ⟨rfl, trivial⟩, ?_, rfl⟩
     show AV.bool _ = AV.bool _
     congr 1
     rw [right_all h0.1 h0.2.1 h0.2.2, hall]
set_option maxRecDepth 100000 in
theorem step_ok (b : Blocks) (s : ByteArray) (fuel : Int) (m : Mach) (hfu : fuel ≤ 9223372036854775807) : ACall Try.prog 54 [.ptr 0 1 0 0] (mheap hNew b s fuel m) (fun r h' => r = .bool (mstep fuel m).1 ∧ HSub (mheap hNone b s fuel (mstep fuel m).2) h') := by
 refine ACall.of_body (n := 22) tok Try.func54 rfl rfl ?_
 refine asr ?_
 refine aa 2 ?_
 refine an ?_
 refine AGo.seq ?_
 refine AGo.seq ?_
 refine AGo.draw mix ?_
 refine dm 3 ?_
 refine dq 4 (q_nilCheck rfl rfl rfl) ?_
 refine df 5 tok ?_
 refine dl 6 tok ?_
 refine dm 7 ?_
 refine dq 8 (q_nilCheck rfl rfl rfl) ?_
 refine df 9 tok ?_
 refine dl 10 tok ?_
 refine dq 11 (q_bin rfl rfl rfl rfl) ?_
 refine DOps.nil (by kernel_rfl) ?_
 refine AGo.split 11 rfl (fun hb1 => ?_) (fun hb1 => ?_)
 ·
  refine act ?_
  refine asr ?_
  refine am 12 ?_
  refine aq 13 (q_nilCheck rfl rfl rfl) ?_
  refine af 14 tok ?_
  refine AOps.w rfl rfl (o_store tok rfl rfl rfl rfl rfl rfl rfl rfl rfl (by decide) rfl z30q) ?_
  refine an ?_
  refine asr ?_
  refine aa 2 ?_
  refine an ?_
  refine AGo.ret ?_
  rw [mstep_no hb1]
  exact ⟨[_], ⟨rfl, trivial⟩, rfl, HSub.put (HSub.put (HSub.put (HSub.none _) rfl) rfl) rfl⟩
 ·
  refine acf ?_
  refine AGo.skip ?_
  refine asr ?_
  refine am 15 ?_
  refine aq 16 (q_nilCheck rfl rfl rfl) ?_
  refine af 17 tok ?_
  refine al 18 tok ?_
  refine aq 19 (q_inc rfl rfl (show m.steps < fuel.toNat by have h := hb1; simp at h; omega) (by simp only [maxLen]; omega)) ?_
  refine aq 20 (q_nilCheck rfl rfl rfl) ?_
  refine af 21 tok ?_
  refine AOps.w rfl rfl (o_store tok rfl rfl rfl rfl rfl rfl rfl rfl rfl (by decide) rfl z30q) ?_
  refine an ?_
  refine asr ?_
  refine aa 2 ?_
  refine an ?_
  refine AGo.ret ?_
  rw [mstep_yes hb1]
  exact ⟨[_], ⟨rfl, trivial⟩, rfl, HSub.put (HSub.put (HSub.put (HSub.none _) rfl) rfl) rfl⟩
set_option maxRecDepth 100000 in
theorem one_okR (b : Blocks) (s : ByteArray) (fuel : Int) (call : Int → Mach → Mach) (t : Tac) (regs : List Int) (m : Mach) (n R : Nat) (ht : TacIn t n R b.words.toNat) (hr : allR regs) (hlen : regs.length = R) (hm : m.good b.words.toNat) (h0 : m.fin = 0) (hbw : b.words ≤ 1048576) (hs : s.size ≤ 9223372036854775807) (hwn : isW t.n)
    (hcall : ∀ (i : Int), 0 ≤ i → i < n → ACall Try.prog 34 [.ptr 0 1 0 0, .int .i64 i] (mheap hNew b s fuel m) (fun r h' => r = .tup [] ∧ HSub (mheap hNone b s fuel (call i m)) h')) : ACall Try.prog 55 [.ptr 0 1 0 0, .agg t.cells, .ref 4 R 0 R] (hput (mheap hNew b s fuel m) 4 (.row true 1 (regCells regs))) (fun r h' => r = .tup [] ∧ HSub (hput (mheap hNone b s fuel (mone call s t regs m).2) 4 (.row true 1 (regCells (mone call s t regs m).1))) h') := by
 refine ACall.of_body (n := 211) tok Try.func55 rfl rfl ?_
 refine asr ?_
 refine ax 4 (o_box (sz := 8) 5 rfl rfl rfl rfl (Nat.zero_lt_succ _) rfl) ?_
 refine an ?_
 refine asr ?_
 refine af 8 tok ?_
 refine al 9 tok ?_
 refine an ?_
 refine AGo.block ?_
 refine asr ?_
 refine aqb ?_
 refine aa 10 ?_
 refine an ?_
 refine AGo.split 10 rfl (fun hb1 => ?_) (fun hb1 => ?_)
 ·
  refine act ?_
  have ho : t.op = 1 := by simpa using hb1
  have hd := ht.d (by simp [setsOp, ho])
  refine AGo.region ?_
  refine am 12 ?_
  refine af 13 tok ?_
  refine al 14 tok ?_
  refine af 15 tok ?_
  refine al 16 tok ?_
  refine aq 17 (q_index_ref tok rfl rfl rfl rfl rfl rfl rfl (by rw [regCells_len, hlen]) rfl hd.1 (by have := hd.2; omega)) ?_
  refine AOps.w rfl rfl (o_store tok rfl rfl rfl rfl rfl rfl (by rw [regCells_len, hlen]) (rcell (by have := hd; omega)) rfl (by decide) rfl z30q) ?_
  refine an ?_
  refine ⟨[], trivial, rfl, ?_⟩
  rw [mone1 ho]
  exact HSub.put (HSub.put (HSub.put (HSub.put (HSub.none _) rfl) rfl) rfl) z15q
 ·
  refine acf ?_
  refine asr ?_
  refine aqb ?_
  refine aa 18 ?_
  refine an ?_
  refine AGo.split 18 rfl (fun hb2 => ?_) (fun hb2 => ?_)
  ·
   refine act ?_
   have ho : t.op = 2 := by simpa using hb2
   have hd := ht.d (by simp [setsOp, ho])
   have ha := ht.a (by simp [use1, use2, ho])
   refine AGo.draw mix ?_
   refine dm 20 ?_
   refine df 21 tok ?_
   refine dl 22 tok ?_
   refine dm 23 ?_
   refine df 24 tok ?_
   refine dl 25 tok ?_
   refine dq 26 (q_index_ref tok rfl rfl rfl rfl rfl rfl rfl (by rw [regCells_len, hlen]) rfl ha.1 (by have := ha.2; omega)) ?_
   refine dq 27 (q_load tok rfl rfl rfl (.ptr _ _ _ _ _ _ _ _ rfl (by rw [regCells_len, hlen]) (rcell (by have := ha; omega))) rfl) ?_
   refine dq 28 (q_index_ref tok rfl rfl rfl rfl rfl rfl rfl (by rw [regCells_len, hlen]) rfl hd.1 (by have := hd.2; omega)) ?_
   refine DOps.w rfl rfl (o_store tok rfl rfl rfl rfl rfl rfl (by rw [regCells_len, hlen]) (rcell (by have := hd; omega)) rfl (by decide) rfl z30q) ?_
   refine DOps.nil (by kernel_rfl) ?_
   refine ⟨[], trivial, rfl, ?_⟩
   rw [mone2 ho]
   exact HSub.put (HSub.put (HSub.put (HSub.put (HSub.none _) rfl) rfl) rfl) z15q
  ·
   refine acf ?_
   refine asr ?_
   refine aqb ?_
   refine aa 29 ?_
   refine an ?_
   refine AGo.split 29 rfl (fun hb3 => ?_) (fun hb3 => ?_)
   ·
    refine act ?_
    have ho : t.op = 3 := by simpa using hb3
    have hd := ht.d (by simp [setsOp, ho])
    have ha := ht.a (by simp [use1, use2, ho])
    have hb := ht.b (by simp [use2, ho])
    refine AGo.seq ?_
    refine AGo.draw mix ?_
    refine df 32 tok ?_
    refine dl 33 tok ?_
    refine dm 34 ?_
    refine df 35 tok ?_
    refine dl 36 tok ?_
    refine dq 37 (q_index_ref tok rfl rfl rfl rfl rfl rfl rfl (by rw [regCells_len, hlen]) rfl ha.1 (by have := ha.2; omega)) ?_
    refine dq 38 (q_load tok rfl rfl rfl (.ptr _ _ _ _ _ _ _ _ rfl (by rw [regCells_len, hlen]) (rcell (by have := ha; omega))) rfl) ?_
    refine dm 39 ?_
    refine df 40 tok ?_
    refine dl 41 tok ?_
    refine dq 42 (q_index_ref tok rfl rfl rfl rfl rfl rfl rfl (by rw [regCells_len, hlen]) rfl hb.1 (by have := hb.2; omega)) ?_
    refine dq 43 (q_load tok rfl rfl rfl (.ptr _ _ _ _ _ _ _ _ rfl (by rw [regCells_len, hlen]) (rcell (by have := hb; omega))) rfl) ?_
    refine dx 44 (o_pure rfl Try.func74 (by kernel_rfl) rfl rfl rfl (rapply_ok t.k (rget regs t.a) (rget regs t.b) (rget_w hr _) (rget_w hr _))) ?_
    refine dm 31 ?_
    refine dq 45 (q_extract rfl rfl rfl) ?_
    refine dq 46 (q_extract rfl rfl rfl) ?_
    refine da 6 ?_
    refine da 7 ?_
    refine DOps.nil (by kernel_rfl) ?_
    refine AGo.seq ?_
    refine asr ?_
    refine am 47 ?_
    refine aqb ?_
    refine an ?_
    refine AGo.split 48 rfl (fun hb4 => ?_) (fun hb4 => ?_)
    ·
     refine act ?_
     refine asr ?_
     refine am 49 ?_
     refine aq 50 (q_nilCheck rfl rfl rfl) ?_
     refine af 51 tok ?_
     refine AOps.w rfl rfl (o_store tok rfl rfl rfl rfl rfl rfl rfl rfl rfl (by decide) rfl z30q) ?_
     refine an ?_
     refine AGo.ret ?_
     refine ⟨[], trivial, rfl, ?_⟩
     rw [mone3z ho hb4]
     exact HSub.put (HSub.put (HSub.put (HSub.put (HSub.none _) rfl) rfl) rfl) rfl
    ·
     refine acf ?_
     refine AGo.skip ?_
     refine AGo.region ?_
     refine am 52 ?_
     refine af 53 tok ?_
     refine al 54 tok ?_
     refine am 55 ?_
     refine aq 56 (q_index_ref tok rfl rfl rfl rfl rfl rfl rfl (by rw [regCells_len, hlen]) rfl hd.1 (by have := hd.2; omega)) ?_
     refine AOps.w rfl rfl (o_store tok rfl rfl rfl rfl rfl rfl (by rw [regCells_len, hlen]) (rcell (by have := hd; omega)) rfl (by decide) rfl z30q) ?_
     refine an ?_
     refine ⟨[], trivial, rfl, ?_⟩
     rw [mone3 ho hb4]
     exact HSub.put (HSub.put (HSub.put (HSub.put (HSub.none _) rfl) rfl) rfl) z15q
   ·
    refine acf ?_
    refine asr ?_
    refine aqb ?_
    refine aa 57 ?_
    refine an ?_
    refine AGo.split 57 rfl (fun hb5 => ?_) (fun hb5 => ?_)
    ·
     refine act ?_
     have ho : t.op = 4 := by simpa using hb5
     have hd := ht.d (by simp [setsOp, ho])
     have hbs := ht.base (by simp [ho])
     refine AGo.draw mix ?_
     refine dm 59 ?_
     refine df 60 tok ?_
     refine dl 61 tok ?_
     refine dm 62 ?_
     refine dq 63 (q_nilCheck rfl rfl rfl) ?_
     refine df 64 tok ?_
     refine dl 65 tok ?_
     refine df 66 tok ?_
     refine dl 67 tok ?_
     refine dq 68 (q_index_ref tok rfl rfl rfl rfl rfl rfl rfl (by rw [regCells_len, hm.len]) rfl hbs.1 (by have := hbs.2; omega)) ?_
     refine dq 69 (q_load tok rfl rfl rfl (.ptr _ _ _ _ _ _ _ _ rfl (by rw [regCells_len, hm.len]) (rcell (by have := hbs; have := hm.len; omega))) rfl) ?_
     refine dq 70 (q_index_ref tok rfl rfl rfl rfl rfl rfl rfl (by rw [regCells_len, hlen]) rfl hd.1 (by have := hd.2; omega)) ?_
     refine DOps.w rfl rfl (o_store tok rfl rfl rfl rfl rfl rfl (by rw [regCells_len, hlen]) (rcell (by have := hd; omega)) rfl (by decide) rfl z30q) ?_
     refine DOps.nil (by kernel_rfl) ?_
     refine ⟨[], trivial, rfl, ?_⟩
     rw [mone4 ho]
     exact HSub.put (HSub.put (HSub.put (HSub.put (HSub.none _) rfl) rfl) rfl) z15q
    ·
     refine acf ?_
     refine asr ?_
     refine aqb ?_
     refine aa 71 ?_
     refine an ?_
     refine AGo.split 71 rfl (fun hb6 => ?_) (fun hb6 => ?_)
     ·
      refine act ?_
      have ho : t.op = 5 := by simpa using hb6
      have ha := ht.a (by simp [use1, use2, ho])
      have hbs := ht.base (by simp [ho])
      refine AGo.draw mix ?_
      refine dm 73 ?_
      refine dq 74 (q_nilCheck rfl rfl rfl) ?_
      refine df 75 tok ?_
      refine dl 76 tok ?_
      refine df 77 tok ?_
      refine dl 78 tok ?_
      refine dm 79 ?_
      refine df 80 tok ?_
      refine dl 81 tok ?_
      refine dq 82 (q_index_ref tok rfl rfl rfl rfl rfl rfl rfl (by rw [regCells_len, hlen]) rfl ha.1 (by have := ha.2; omega)) ?_
      refine dq 83 (q_load tok rfl rfl rfl (.ptr _ _ _ _ _ _ _ _ rfl (by rw [regCells_len, hlen]) (rcell (by have := ha; omega))) rfl) ?_
      refine dq 84 (q_index_ref tok rfl rfl rfl rfl rfl rfl rfl (by rw [regCells_len, hm.len]) rfl hbs.1 (by have := hbs.2; omega)) ?_
      refine DOps.w rfl rfl (o_store tok rfl rfl rfl rfl rfl rfl (by rw [regCells_len, hm.len]) (rcell (by have := hbs; have := hm.len; omega)) rfl (by decide) rfl z30q) ?_
      refine DOps.nil (by kernel_rfl) ?_
      refine ⟨[], trivial, rfl, ?_⟩
      rw [mone5 ho]
      exact HSub.put (HSub.put (HSub.put (HSub.put (HSub.none _) rfl) z15q) rfl) rfl
     ·
      refine acf ?_
      refine AGo.seq ?_
      refine asr ?_
      refine aqb ?_
      refine aa 85 ?_
      refine an ?_
      refine AGo.split 85 rfl (fun hb7 => ?_) (fun hb7 => ?_)
      ·
       refine act ?_
       refine AGo.skip ?_
       refine act ?_
       refine AGo.seq ?_
       refine AGo.seq ?_
       refine AGo.draw mix ?_
       have ho : t.op = 6 ∨ t.op = 7 := by simp_all
       have har := ht.arr ho
       have ha := ht.a (by rcases ho with ho | ho <;> simp [use1, use2, ho])
       have hwa := rget_w hr t.a
       have hwa1 := hwa.1
       have hwa2 := hwa.2
       refine dm 88 ?_
       refine df 89 tok ?_
       refine dl 90 tok ?_
       refine dq 91 (q_index_ref tok rfl rfl rfl rfl rfl rfl rfl (by rw [regCells_len, hlen]) rfl ha.1 (by have := ha.2; omega)) ?_
       refine dq 92 (q_load tok rfl rfl rfl (.ptr _ _ _ _ _ _ _ _ rfl (by rw [regCells_len, hlen]) (rcell (by have := ha; omega))) rfl) ?_
       refine dq 93 (q_convTo tok rfl rfl rfl rfl rfl (r := rget regs t.a) (by rw [IntKind.wrap_u64]; omega)) ?_
       refine df 94 tok ?_
       refine dl 95 tok ?_
       refine dq 96 (q_convTo tok rfl rfl rfl rfl rfl (r := t.size) (by rw [IntKind.wrap_u64]; omega)) ?_
       refine dq 97 (q_bin rfl rfl rfl rfl) ?_
       refine DOps.nil (by kernel_rfl) ?_
       refine AGo.split 97 rfl (fun hb8 => ?_) (fun hb8 => ?_)
       ·
        refine act ?_
        have hsz := hb8
        refine asr ?_
        refine am 98 ?_
        refine aq 99 (q_nilCheck rfl rfl rfl) ?_
        refine af 100 tok ?_
        refine AOps.w rfl rfl (o_store tok rfl rfl rfl rfl rfl rfl rfl rfl rfl (by decide) rfl z30q) ?_
        refine an ?_
        refine AGo.ret ?_
        refine ⟨[], trivial, rfl, ?_⟩
        rw [mone67z ho hsz]
        exact HSub.put (HSub.put (HSub.put (HSub.put (HSub.none _) rfl) rfl) rfl) rfl
       ·
        refine acf ?_
        have hsz := hb8
        have hsz2 : rget regs t.a < t.size := by simpa using hb8
        have hidx : 0 ≤ t.base + rget regs t.a ∧ t.base + rget regs t.a < b.words.toNat := by omega
        refine AGo.skip ?_
        refine asr ?_
        refine af 101 tok ?_
        refine al 102 tok ?_
        refine aqb ?_
        refine an ?_
        refine AGo.split 103 rfl (fun hb9 => ?_) (fun hb9 => ?_)
        ·
         refine act ?_
         have ho6 : t.op = 6 := by simpa using hb9
         have hd := ht.d (by simp [setsOp, ho6])
         refine AGo.draw mix ?_
         refine dm 104 ?_
         refine df 105 tok ?_
         refine dl 106 tok ?_
         refine dm 107 ?_
         refine dq 108 (q_nilCheck rfl rfl rfl) ?_
         refine df 109 tok ?_
         refine dl 110 tok ?_
         refine df 111 tok ?_
         refine dl 112 tok ?_
         refine dm 113 ?_
         refine df 114 tok ?_
         refine dl 115 tok ?_
         refine dq 116 (q_index_ref tok rfl rfl rfl rfl rfl rfl rfl (by rw [regCells_len, hlen]) rfl ha.1 (by have := ha.2; omega)) ?_
         refine dq 117 (q_load tok rfl rfl rfl (.ptr _ _ _ _ _ _ _ _ rfl (by rw [regCells_len, hlen]) (rcell (by have := ha; omega))) rfl) ?_
         refine dq 118 (q_convTo tok rfl rfl rfl rfl rfl (r := rget regs t.a) (by exact wrap_i64 (by omega) (by omega))) ?_
         refine dq 119 (q_bin (r := .int .i64 (t.base + rget regs t.a)) rfl rfl rfl z23q) ?_
         refine dq 120 (q_index_ref tok rfl rfl rfl rfl rfl rfl rfl (by rw [regCells_len, hm.len]) rfl hidx.1 (by have := hidx.2; omega)) ?_
         refine dq 121 (q_load tok rfl rfl rfl (.ptr _ _ _ _ _ _ _ _ rfl (by rw [regCells_len, hm.len]) (rcell (by have := hidx; have := hm.len; omega))) rfl) ?_
         refine dq 122 (q_index_ref tok rfl rfl rfl rfl rfl rfl rfl (by rw [regCells_len, hlen]) rfl hd.1 (by have := hd.2; omega)) ?_
         refine DOps.w rfl rfl (o_store tok rfl rfl rfl rfl rfl rfl (by rw [regCells_len, hlen]) (rcell (by have := hd; omega)) rfl (by decide) rfl z30q) ?_
         refine DOps.nil (by kernel_rfl) ?_
         refine ⟨[], trivial, rfl, ?_⟩
         rw [mone6 ho6 hsz]
         exact HSub.put (HSub.put (HSub.put (HSub.put (HSub.none _) rfl) rfl) rfl) z15q
        ·
         refine acf ?_
         have ho7 : t.op = 7 := by have h := hb9; simp at h; omega
         have hb := ht.b (by simp [use2, ho7])
         refine AGo.draw mix ?_
         refine dm 123 ?_
         refine dq 124 (q_nilCheck rfl rfl rfl) ?_
         refine df 125 tok ?_
         refine dl 126 tok ?_
         refine df 127 tok ?_
         refine dl 128 tok ?_
         refine dm 129 ?_
         refine df 130 tok ?_
         refine dl 131 tok ?_
         refine dq 132 (q_index_ref tok rfl rfl rfl rfl rfl rfl rfl (by rw [regCells_len, hlen]) rfl ha.1 (by have := ha.2; omega)) ?_
         refine dq 133 (q_load tok rfl rfl rfl (.ptr _ _ _ _ _ _ _ _ rfl (by rw [regCells_len, hlen]) (rcell (by have := ha; omega))) rfl) ?_
         refine dq 134 (q_convTo tok rfl rfl rfl rfl rfl (r := rget regs t.a) (by exact wrap_i64 (by omega) (by omega))) ?_
         refine dq 135 (q_bin (r := .int .i64 (t.base + rget regs t.a)) rfl rfl rfl z23q) ?_
         refine dm 136 ?_
         refine df 137 tok ?_
         refine dl 138 tok ?_
         refine dq 139 (q_index_ref tok rfl rfl rfl rfl rfl rfl rfl (by rw [regCells_len, hlen]) rfl hb.1 (by have := hb.2; omega)) ?_
         refine dq 140 (q_load tok rfl rfl rfl (.ptr _ _ _ _ _ _ _ _ rfl (by rw [regCells_len, hlen]) (rcell (by have := hb; omega))) rfl) ?_
         refine dq 141 (q_index_ref tok rfl rfl rfl rfl rfl rfl rfl (by rw [regCells_len, hm.len]) rfl hidx.1 (by have := hidx.2; omega)) ?_
         refine DOps.w rfl rfl (o_store tok rfl rfl rfl rfl rfl rfl (by rw [regCells_len, hm.len]) (rcell (by have := hidx; have := hm.len; omega)) rfl (by decide) rfl z30q) ?_
         refine DOps.nil (by kernel_rfl) ?_
         refine ⟨[], trivial, rfl, ?_⟩
         rw [mone7 ho7 hsz]
         exact HSub.put (HSub.put (HSub.put (HSub.put (HSub.none _) rfl) z15q) rfl) rfl
      ·
       refine acf ?_
       refine AGo.region ?_
       refine aqb ?_
       refine aa 85 ?_
       refine an ?_
       refine AGo.split 85 rfl (fun hb10 => ?_) (fun hb10 => ?_)
       ·
        refine act ?_
        refine AGo.seq ?_
        refine AGo.seq ?_
        refine AGo.draw mix ?_
        have ho : t.op = 6 ∨ t.op = 7 := by simp_all
        have har := ht.arr ho
        have ha := ht.a (by rcases ho with ho | ho <;> simp [use1, use2, ho])
        have hwa := rget_w hr t.a
        have hwa1 := hwa.1
        have hwa2 := hwa.2
        refine dm 88 ?_
        refine df 89 tok ?_
        refine dl 90 tok ?_
        refine dq 91 (q_index_ref tok rfl rfl rfl rfl rfl rfl rfl (by rw [regCells_len, hlen]) rfl ha.1 (by have := ha.2; omega)) ?_
        refine dq 92 (q_load tok rfl rfl rfl (.ptr _ _ _ _ _ _ _ _ rfl (by rw [regCells_len, hlen]) (rcell (by have := ha; omega))) rfl) ?_
        refine dq 93 (q_convTo tok rfl rfl rfl rfl rfl (r := rget regs t.a) (by rw [IntKind.wrap_u64]; omega)) ?_
        refine df 94 tok ?_
        refine dl 95 tok ?_
        refine dq 96 (q_convTo tok rfl rfl rfl rfl rfl (r := t.size) (by rw [IntKind.wrap_u64]; omega)) ?_
        refine dq 97 (q_bin rfl rfl rfl rfl) ?_
        refine DOps.nil (by kernel_rfl) ?_
        refine AGo.split 97 rfl (fun hb11 => ?_) (fun hb11 => ?_)
        ·
         refine act ?_
         have hsz := hb11
         refine asr ?_
         refine am 98 ?_
         refine aq 99 (q_nilCheck rfl rfl rfl) ?_
         refine af 100 tok ?_
         refine AOps.w rfl rfl (o_store tok rfl rfl rfl rfl rfl rfl rfl rfl rfl (by decide) rfl z30q) ?_
         refine an ?_
         refine AGo.ret ?_
         refine ⟨[], trivial, rfl, ?_⟩
         rw [mone67z ho hsz]
         exact HSub.put (HSub.put (HSub.put (HSub.put (HSub.none _) rfl) rfl) rfl) rfl
        ·
         refine acf ?_
         have hsz := hb11
         have hsz2 : rget regs t.a < t.size := by simpa using hb11
         have hidx : 0 ≤ t.base + rget regs t.a ∧ t.base + rget regs t.a < b.words.toNat := by omega
         refine AGo.skip ?_
         refine asr ?_
         refine af 101 tok ?_
         refine al 102 tok ?_
         refine aqb ?_
         refine an ?_
         refine AGo.split 103 rfl (fun hb12 => ?_) (fun hb12 => ?_)
         ·
          refine act ?_
          have ho6 : t.op = 6 := by simpa using hb12
          have hd := ht.d (by simp [setsOp, ho6])
          refine AGo.draw mix ?_
          refine dm 104 ?_
          refine df 105 tok ?_
          refine dl 106 tok ?_
          refine dm 107 ?_
          refine dq 108 (q_nilCheck rfl rfl rfl) ?_
          refine df 109 tok ?_
          refine dl 110 tok ?_
          refine df 111 tok ?_
          refine dl 112 tok ?_
          refine dm 113 ?_
          refine df 114 tok ?_
          refine dl 115 tok ?_
          refine dq 116 (q_index_ref tok rfl rfl rfl rfl rfl rfl rfl (by rw [regCells_len, hlen]) rfl ha.1 (by have := ha.2; omega)) ?_
          refine dq 117 (q_load tok rfl rfl rfl (.ptr _ _ _ _ _ _ _ _ rfl (by rw [regCells_len, hlen]) (rcell (by have := ha; omega))) rfl) ?_
          refine dq 118 (q_convTo tok rfl rfl rfl rfl rfl (r := rget regs t.a) (by exact wrap_i64 (by omega) (by omega))) ?_
          refine dq 119 (q_bin (r := .int .i64 (t.base + rget regs t.a)) rfl rfl rfl z23q) ?_
          refine dq 120 (q_index_ref tok rfl rfl rfl rfl rfl rfl rfl (by rw [regCells_len, hm.len]) rfl hidx.1 (by have := hidx.2; omega)) ?_
          refine dq 121 (q_load tok rfl rfl rfl (.ptr _ _ _ _ _ _ _ _ rfl (by rw [regCells_len, hm.len]) (rcell (by have := hidx; have := hm.len; omega))) rfl) ?_
          refine dq 122 (q_index_ref tok rfl rfl rfl rfl rfl rfl rfl (by rw [regCells_len, hlen]) rfl hd.1 (by have := hd.2; omega)) ?_
          refine DOps.w rfl rfl (o_store tok rfl rfl rfl rfl rfl rfl (by rw [regCells_len, hlen]) (rcell (by have := hd; omega)) rfl (by decide) rfl z30q) ?_
          refine DOps.nil (by kernel_rfl) ?_
          refine ⟨[], trivial, rfl, ?_⟩
          rw [mone6 ho6 hsz]
          exact HSub.put (HSub.put (HSub.put (HSub.put (HSub.none _) rfl) rfl) rfl) z15q
         ·
          refine acf ?_
          have ho7 : t.op = 7 := by have h := hb12; simp at h; omega
          have hb := ht.b (by simp [use2, ho7])
          refine AGo.draw mix ?_
          refine dm 123 ?_
          refine dq 124 (q_nilCheck rfl rfl rfl) ?_
          refine df 125 tok ?_
          refine dl 126 tok ?_
          refine df 127 tok ?_
          refine dl 128 tok ?_
          refine dm 129 ?_
          refine df 130 tok ?_
          refine dl 131 tok ?_
          refine dq 132 (q_index_ref tok rfl rfl rfl rfl rfl rfl rfl (by rw [regCells_len, hlen]) rfl ha.1 (by have := ha.2; omega)) ?_
          refine dq 133 (q_load tok rfl rfl rfl (.ptr _ _ _ _ _ _ _ _ rfl (by rw [regCells_len, hlen]) (rcell (by have := ha; omega))) rfl) ?_
          refine dq 134 (q_convTo tok rfl rfl rfl rfl rfl (r := rget regs t.a) (by exact wrap_i64 (by omega) (by omega))) ?_
          refine dq 135 (q_bin (r := .int .i64 (t.base + rget regs t.a)) rfl rfl rfl z23q) ?_
          refine dm 136 ?_
          refine df 137 tok ?_
          refine dl 138 tok ?_
          refine dq 139 (q_index_ref tok rfl rfl rfl rfl rfl rfl rfl (by rw [regCells_len, hlen]) rfl hb.1 (by have := hb.2; omega)) ?_
          refine dq 140 (q_load tok rfl rfl rfl (.ptr _ _ _ _ _ _ _ _ rfl (by rw [regCells_len, hlen]) (rcell (by have := hb; omega))) rfl) ?_
          refine dq 141 (q_index_ref tok rfl rfl rfl rfl rfl rfl rfl (by rw [regCells_len, hm.len]) rfl hidx.1 (by have := hidx.2; omega)) ?_
          refine DOps.w rfl rfl (o_store tok rfl rfl rfl rfl rfl rfl (by rw [regCells_len, hm.len]) (rcell (by have := hidx; have := hm.len; omega)) rfl (by decide) rfl z30q) ?_
          refine DOps.nil (by kernel_rfl) ?_
          refine ⟨[], trivial, rfl, ?_⟩
          rw [mone7 ho7 hsz]
          exact HSub.put (HSub.put (HSub.put (HSub.put (HSub.none _) rfl) z15q) rfl) rfl
       ·
        refine acf ?_
        refine asr ?_
        refine aqb ?_
        refine aa 142 ?_
        refine an ?_
        refine AGo.split 142 rfl (fun hb13 => ?_) (fun hb13 => ?_)
        ·
         refine act ?_
         have ho : t.op = 8 := by simpa using hb13
         have hd := ht.d (by simp [setsOp, ho])
         refine asr ?_
         refine am 144 ?_
         refine af 145 tok ?_
         refine al 146 tok ?_
         refine aq 147 (q_index_ref tok rfl rfl rfl rfl rfl rfl rfl (by rw [regCells_len, hlen]) rfl hd.1 (by have := hd.2; omega)) ?_
         refine AOps.w rfl rfl (o_store tok rfl rfl rfl rfl rfl rfl (by rw [regCells_len, hlen]) (rcell (by have := hd; omega)) rfl (by decide) rfl z30q) ?_
         refine an ?_
         refine AGo.seq ?_
         refine AGo.draw mix ?_
         refine dm 148 ?_
         refine dq 149 (q_nilCheck rfl rfl rfl) ?_
         refine df 150 tok ?_
         refine dl 151 tok ?_
         refine dm 152 ?_
         refine dq 153 (q_nilCheck rfl rfl rfl) ?_
         refine df 154 tok ?_
         refine dl 155 tok ?_
         refine dq 156 (q_len tok rfl rfl rfl rfl rfl) ?_
         refine dq 157 (q_bin rfl rfl rfl rfl) ?_
         refine DOps.nil (by kernel_rfl) ?_
         refine AGo.split 157 rfl (fun hb14 => ?_) (fun hb14 => ?_)
         ·
          refine act ?_
          have hrd : m.read < s.size := by have h := hb14; simp at h; omega
          refine AGo.seq ?_
          refine AGo.draw mix ?_
          refine dm 158 ?_
          refine df 159 tok ?_
          refine dl 160 tok ?_
          refine dm 161 ?_
          refine dq 162 (q_nilCheck rfl rfl rfl) ?_
          refine df 163 tok ?_
          refine dl 164 tok ?_
          refine dm 165 ?_
          refine dq 166 (q_nilCheck rfl rfl rfl) ?_
          refine df 167 tok ?_
          refine dl 168 tok ?_
          refine dq 169 (q_index_str (c := inAt s m.read) tok rfl rfl rfl rfl rfl (Int.natCast_nonneg _) (inAt_get hrd)) ?_
          refine dq 170 (q_convTo tok rfl rfl rfl rfl rfl (r := ((inAt s m.read).toNat : Int)) (by rw [IntKind.wrap_u32]; have := (byte_w (inAt s m.read)).2; omega)) ?_
          refine dq 171 (q_index_ref tok rfl rfl rfl rfl rfl rfl rfl (by rw [List.length_set, regCells_len, hlen]) rfl hd.1 (by have := hd.2; omega)) ?_
          refine DOps.w rfl rfl (o_store tok rfl rfl rfl rfl rfl rfl (by rw [List.length_set, regCells_len, hlen]) (get_set_self (rcell (by have := hd; omega))) rfl (by decide) rfl z30q) ?_
          refine DOps.nil (by kernel_rfl) ?_
          refine AGo.region ?_
          refine am 172 ?_
          refine aq 173 (q_nilCheck rfl rfl rfl) ?_
          refine af 174 tok ?_
          refine al 175 tok ?_
          refine aq 176 (q_inc rfl rfl hrd (by simp only [maxLen]; omega)) ?_
          refine aq 177 (q_nilCheck rfl rfl rfl) ?_
          refine af 178 tok ?_
          refine AOps.w rfl rfl (o_store tok rfl rfl rfl rfl rfl rfl rfl rfl rfl (by decide) rfl z30q) ?_
          refine an ?_
          refine ⟨[], trivial, rfl, ?_⟩
          rw [mone8 ho hrd]
          exact HSub.put (HSub.put (HSub.put (HSub.put (HSub.none _) rfl) rfl) rfl) z15q
         ·
          refine acf ?_
          have hrd : ¬ m.read < s.size := by have h := hb14; simp at h; omega
          refine AGo.skip ?_
          refine ⟨[], trivial, rfl, ?_⟩
          rw [mone8z ho hrd]
          exact HSub.put (HSub.put (HSub.put (HSub.put (HSub.none _) rfl) rfl) rfl) z15q
        ·
         refine acf ?_
         refine asr ?_
         refine aqb ?_
         refine aa 179 ?_
         refine an ?_
         refine AGo.split 179 rfl (fun hb15 => ?_) (fun hb15 => ?_)
         ·
          refine act ?_
          have ho : t.op = 9 := by simpa using hb15
          have ha := ht.a (by simp [use1, use2, ho])
          have hwa := rget_w hr t.a
          have hwa1 := hwa.1
          have hwa2 := hwa.2
          refine AGo.seq ?_
          refine asr ?_
          refine am 181 ?_
          refine aq 182 (q_nilCheck rfl rfl rfl) ?_
          refine af 183 tok ?_
          refine al 184 tok ?_
          refine aq 185 (q_len tok rfl rfl rfl rfl rfl) ?_
          refine aqb ?_
          refine an ?_
          refine AGo.split 186 rfl (fun hb16 => ?_) (fun hb16 => ?_)
          ·
           refine act ?_
           have hou : m.out.length ≥ 65536 := by have h := hb16; simp [byteCells] at h; omega
           refine asr ?_
           refine am 187 ?_
           refine aq 188 (q_nilCheck rfl rfl rfl) ?_
           refine af 189 tok ?_
           refine AOps.w rfl rfl (o_store tok rfl rfl rfl rfl rfl rfl rfl rfl rfl (by decide) rfl z30q) ?_
           refine an ?_
           refine AGo.ret ?_
           refine ⟨[], trivial, rfl, ?_⟩
           rw [mone9z ho hou]
           exact HSub.put (HSub.put (HSub.put (HSub.put (HSub.none _) rfl) rfl) rfl) rfl
          ·
           refine acf ?_
           have hou : ¬ m.out.length ≥ 65536 := by have h := hb16; simp [byteCells] at h; omega
           refine AGo.skip ?_
           refine AGo.draw mix ?_
           refine dm 190 ?_
           refine dm 191 ?_
           refine dq 192 (q_nilCheck rfl rfl rfl) ?_
           refine df 193 tok ?_
           refine dl 194 tok ?_
           refine dm 195 ?_
           refine df 196 tok ?_
           refine dl 197 tok ?_
           refine dq 198 (q_index_ref tok rfl rfl rfl rfl rfl rfl rfl (by rw [regCells_len, hlen]) rfl ha.1 (by have := ha.2; omega)) ?_
           refine dq 199 (q_load tok rfl rfl rfl (.ptr _ _ _ _ _ _ _ _ rfl (by rw [regCells_len, hlen]) (rcell (by have := ha; omega))) rfl) ?_
           refine dq 200 (q_convTo tok rfl rfl rfl rfl rfl (wrap_byte hwa)) ?_
           refine dx 201 (o_lit' tok rfl rfl rfl rfl rfl rfl (by decide) rfl rfl rfl rfl rfl rfl) ?_
           refine dx 202 (o_append tok (n := m.out.length) (m := 1) rfl rfl rfl rfl rfl rfl rfl rfl rfl (by simp [byteCells]) rfl rfl (Nat.zero_lt_succ _) (.lst _ _) (by intro cs h; simp [partVals] at h; subst h; rfl) (fun _ cs h => by simp [partVals] at h; subst h; rfl) rfl (by simp [byteCells, partVals]; have := hm.out; omega) (by simp [byteCells, partVals]; simp only [maxLen]; have := hm.out; omega)) ?_
           refine dq 203 (q_nilCheck rfl rfl rfl) ?_
           refine df 204 tok ?_
           refine DOps.w rfl rfl (o_store tok rfl rfl rfl rfl rfl rfl rfl rfl rfl (by decide) rfl z30q) ?_
           refine DOps.nil (by kernel_rfl) ?_
           refine ⟨[], trivial, rfl, ?_⟩
           rw [mone9 ho hou]
           exact HSub.put (HSub.put (HSub.put (HSub.put (HSub.none _) (by first | rfl | exact congrArg (fun n => some (AObj.row false 9 [[.int .i64 b.words, funcsAV b.funcs, .str s, .int .i64 fuel, .ref 1 b.words.toNat 0 b.words.toNat, .ref 2 n 0 n, .int .i64 (m.read : Int), .int .i64 (m.steps : Int), .int .i64 m.fin]])) (by simp))) rfl) (by first | rfl | exact congrArg (fun es => some (AObj.row true 1 es)) (by simp [byteCells, partVals]; rfl))) rfl
         ·
          refine acf ?_
          refine asr ?_
          refine aqb ?_
          refine aa 205 ?_
          refine an ?_
          refine AGo.split 205 rfl (fun hb17 => ?_) (fun hb17 => ?_)
          ·
           refine act ?_
           have ho : t.op = 10 := by simpa using hb17
           have hcl := ht.call ho
           refine AGo.region ?_
           refine am 207 ?_
           refine af 208 tok ?_
           refine al 209 tok ?_
           refine ax 210 (o_call (hc := (mheap hNew b s fuel m)) (hw := (mheap hNone b s fuel (call t.base m))) [2, 1, 0] [(0, (.row false 9 [runCells b s fuel (call t.base m)])), (1, (.row true 1 (regCells ((call t.base m)).words))), (2, (.row true 1 (byteCells ((call t.base m)).out)))] rfl Try.func34 (by kernel_rfl) rfl rfl rfl ⟨⟨_, rfl, rfl⟩, ⟨_, rfl, rfl⟩, ⟨_, rfl, rfl⟩, trivial⟩ rfl (hres_cons rfl (hres_cons rfl (hres_cons rfl (hres_nil _)))) ⟨⟨_, rfl, rfl, rfl⟩, ⟨_, rfl, rfl, rfl⟩, ⟨_, rfl, rfl, rfl⟩, trivial⟩ rfl (hcall t.base hcl.1 hcl.2)) ?_
           refine an ?_
           refine ⟨[], trivial, rfl, ?_⟩
           rw [mone10 ho]
           exact HSub.put (HSub.put (HSub.put (HSub.put (HSub.none _) rfl) rfl) rfl) rfl
          ·
           refine acf ?_
           refine AGo.skip ?_
           exact absurd ht.op (by simp_all; omega)
set_option maxRecDepth 100000 in
theorem fun_step (b : Blocks) (s : ByteArray) (fuel : Int) (call : Int → Mach → Mach) (i : Int) (f : BFunc) (m : Mach) (hfu : fuel ≤ 9223372036854775807) (hs : s.size ≤ 9223372036854775807) (hbw : b.words ≤ 1048576) (hf : b.funcs[i.toNat]? = some f) (hi : 0 ≤ i) (hone : f.one i b.words = true)
    (hfw : ∀ x ∈ f.blocks, insW x.ins) (hfl : ∀ x ∈ f.blocks, x.ins.length ≤ maxLen)
    (hcall : ∀ (j : Int) (m : Mach), 0 ≤ j → j < i → m.fin = 0 → m.good b.words.toNat → ACall Try.prog 34 [.ptr 0 1 0 0, .int .i64 j] (mheap hNew b s fuel m) (fun r h' => r = .tup [] ∧ HSub (mheap hNone b s fuel (call j m)) h'))
    (hcg : ∀ i m, m.good b.words.toNat → (call i m).good b.words.toNat) (hcs : ∀ i m, m.steps ≤ (call i m).steps) (hm : m.good b.words.toNat) (h0 : m.fin = 0) : ACall Try.prog 34 [.ptr 0 1 0 0, .int .i64 i] (mheap hNew b s fuel m) (fun r h' => r = .tup [] ∧ HSub (mheap hNone b s fuel (mblk call s fuel f (fuel.toNat + 1) 0 (List.replicate f.regs.toNat 0) m)) h') := by
 have hsp := one_spec hone
 refine ACall.of_body (n := 76) tok Try.func34 rfl rfl ?_
 refine asr ?_
 refine am 9 ?_
 refine aq 10 (q_nilCheck rfl rfl rfl) ?_
 refine af 11 tok ?_
 refine af 12 tok ?_
 refine al 13 tok ?_
 refine am 14 ?_
 refine aq 15 (q_index_lst tok rfl rfl rfl rfl rfl rfl hi (idx_map2 hf) rfl) ?_
 refine al 16 tok ?_
 refine ax 4 (o_alloc tok 3 rfl rfl rfl rfl (Nat.zero_lt_succ _) rfl) ?_
 refine AOps.w rfl rfl (o_store tok rfl rfl rfl rfl rfl rfl rfl rfl rfl (by decide) rfl z30q) ?_
 refine an ?_
 refine asr ?_
 refine af 17 tok ?_
 refine al 18 tok ?_
 refine ax 19 (o_makeSlice tok (n := f.regs.toNat) (m := f.regs.toNat) 4 true rfl rfl rfl (by have := hsp.1; omega) (by have := hsp.1; omega) rfl rfl rfl rfl rfl (Nat.zero_lt_succ _) rfl (Nat.le_refl _) (by show 4 * f.regs.toNat ≤ _; have := hsp.2.1; omega) (by simp only [maxLen]; have := hsp.2.1; omega)) ?_
 refine aa 5 ?_
 refine an ?_
 refine asr ?_
 refine aa 6 ?_
 refine an ?_
 refine AGo.block ?_
 refine AGo.loopD (γ := FG) 5 (fun q => ⟨76, (eput (eput (eput (eput eNew 0 (.ptr 0 1 0 0)) 4 (.ptr 3 1 0 0)) 5 (.ref 4 f.regs.toNat 0 f.regs.toNat)) 6 (.int .i64 q.i)), (hput (hput (hput (hput (hput (hFrom 5) 0 (.row false 9 [runCells b s fuel q.m])) 1 (.row true 1 (regCells (q.m).words))) 2 (.row true 1 (byteCells (q.m).out))) 3 (.row false 2 [f.cells])) 4 (.row true 1 (regCells q.regs)))⟩) (fun q => FInv call s fuel f b.words.toNat f.regs.toNat (mblk call s fuel f (fuel.toNat + 1) 0 (List.replicate f.regs.toNat 0) m) q) (fun q => q.g) ⟨0, List.replicate f.regs.toNat 0, m, fuel.toNat + 1⟩ (Sub.mk' z26q z6q) (FInv.first hm h0 hsp.2.2.1) (fun _ => hput_free (hput_free (hput_free (hput_free (hput_free (fun b hb => hFrom_free hb) rfl) rfl) rfl) rfl) rfl) ?_
 intro q hF
 refine AGo.seq ?_
 refine asr ?_
 refine am 20 ?_
 refine aq 21 (q_nilCheck rfl rfl rfl) ?_
 refine af 22 tok ?_
 refine al 23 tok ?_
 refine aqb ?_
 refine an ?_
 refine AGo.split 24 rfl (fun hb1 => ?_) (fun hb1 => ?_)
 ·
  refine act ?_
  obtain ⟨k, hk⟩ := get_of_lt (l := f.blocks) (k := q.i.toNat) (by have := hF.i; omega)
  have hkm := List.mem_of_getElem? hk
  have hks := hsp.2.2.2 k hkm
  refine AGo.skip ?_
  refine AGo.block ?_
  refine asr ?_
  refine af 25 tok ?_
  refine al 26 tok ?_
  refine am 27 ?_
  refine aq 28 (q_index_lst tok rfl rfl rfl rfl rfl rfl hF.i.1 (idx_map2 hk) rfl) ?_
  refine al 29 tok ?_
  refine ax 7 (o_alloc tok 5 rfl rfl rfl rfl (Nat.zero_lt_succ _) rfl) ?_
  refine AOps.w rfl rfl (o_store tok rfl rfl rfl rfl rfl rfl rfl rfl rfl (by decide) rfl z30q) ?_
  refine an ?_
  refine AGo.seq ?_
  refine asr ?_
  refine aa 8 ?_
  refine an ?_
  refine AGo.block ?_
  refine AGo.loopD (γ := IG) 6 (fun r => ⟨76, (eput (eput (eput (eput (eput (eput eNew 0 (.ptr 0 1 0 0)) 4 (.ptr 3 1 0 0)) 5 (.ref 4 f.regs.toNat 0 f.regs.toNat)) 6 (.int .i64 q.i)) 7 (.ptr 5 1 0 0)) 8 (.int .i64 (r.j : Int))), (hput (hput (hput (hput (hput (hput (hFrom 6) 0 (.row false 9 [runCells b s fuel r.m])) 1 (.row true 1 (regCells (r.m).words))) 2 (.row true 1 (byteCells (r.m).out))) 3 (.row false 2 [f.cells])) 4 (.row true 1 (regCells r.regs))) 5 (.row false 5 [k.cells]))⟩) (fun r => IInv call s fuel k q b.words.toNat f.regs.toNat r) (fun r => k.ins.length - r.j) ⟨0, q.regs, q.m⟩ (Sub.mk' z26q z9q) hF.start (fun _ => hput_free (hput_free (hput_free (hput_free (hput_free (hput_free (fun b hb => hFrom_free hb) rfl) rfl) rfl) rfl) rfl) rfl) ?_
  intro r hI
  refine AGo.seq ?_
  refine asr ?_
  refine am 30 ?_
  refine af 31 tok ?_
  refine al 32 tok ?_
  refine aq 33 (q_len tok rfl rfl rfl rfl rfl) ?_
  refine aqb ?_
  refine an ?_
  refine AGo.split 34 rfl (fun hb2 => ?_) (fun hb2 => ?_)
  ·
   refine act ?_
   have hjl : r.j < k.ins.length := lt_of_idx hb2
   obtain ⟨u, hu⟩ := get_of_lt hjl
   have hum := List.mem_of_getElem? hu
   have hut := tacIn_of (hks.2 u hum)
   have huw := hfw k hkm u hum
   refine AGo.skip ?_
   refine AGo.seq ?_
   refine AGo.block ?_
   refine AGo.seq ?_
   refine asr ?_
   refine am 37 ?_
   refine ax 38 (o_call (hc := (mheap hNew b s fuel r.m)) (hw := (mheap hNone b s fuel (mstep fuel r.m).2)) [2, 1, 0] [(0, (.row false 9 [runCells b s fuel (mstep fuel r.m).2])), (1, (.row true 1 (regCells ((mstep fuel r.m).2).words))), (2, (.row true 1 (byteCells ((mstep fuel r.m).2).out)))] rfl Try.func54 (by kernel_rfl) rfl rfl rfl ⟨⟨_, rfl, rfl⟩, ⟨_, rfl, rfl⟩, ⟨_, rfl, rfl⟩, trivial⟩ rfl (hres_cons rfl (hres_cons rfl (hres_cons rfl (hres_nil _)))) ⟨⟨_, rfl, rfl, rfl⟩, ⟨_, rfl, rfl, rfl⟩, ⟨_, rfl, rfl, rfl⟩, trivial⟩ rfl (step_ok b s fuel r.m hfu)) ?_
   refine aq 39 (q_not rfl rfl) ?_
   refine an ?_
   refine AGo.split 39 rfl (fun hb3 => ?_) (fun hb3 => ?_)
   ·
    refine act ?_
    have hst : (mstep fuel r.m).1 = false := by simpa using hb3
    refine AGo.ret ?_
    refine ⟨[], trivial, rfl, ?_⟩
    rw [show (mblk call s fuel f (fuel.toNat + 1) 0 (List.replicate f.regs.toNat 0) m) = _ from fin_A hF hk hI hu hst]
    exact HSub.put (HSub.put (HSub.put (HSub.none _) rfl) rfl) rfl
   ·
    refine acf ?_
    have hst : (mstep fuel r.m).1 = true := by simpa using hb3
    have hsf : (mstep fuel r.m).2.fin = 0 := by rw [(mstep_true hst).2]; exact hI.fin
    refine AGo.skip ?_
    refine asr ?_
    refine am 40 ?_
    refine af 41 tok ?_
    refine al 42 tok ?_
    refine am 43 ?_
    refine aq 44 (q_index_lst tok rfl rfl rfl rfl rfl rfl (Int.natCast_nonneg _) (idx_map (by assumption)) rfl) ?_
    refine al 45 tok ?_
    refine am 46 ?_
    refine ax 47 (o_call (hc := (hput (mheap hNew b s fuel (mstep fuel r.m).2) 4 (.row true 1 (regCells r.regs)))) (hw := (hput (mheap hNone b s fuel (mone call s u r.regs (mstep fuel r.m).2).2) 4 (.row true 1 (regCells (mone call s u r.regs (mstep fuel r.m).2).1)))) [4, 2, 1, 0] [(0, (.row false 9 [runCells b s fuel (mone call s u r.regs (mstep fuel r.m).2).2])), (1, (.row true 1 (regCells ((mone call s u r.regs (mstep fuel r.m).2).2).words))), (2, (.row true 1 (byteCells ((mone call s u r.regs (mstep fuel r.m).2).2).out))), (4, (.row true 1 (regCells (mone call s u r.regs (mstep fuel r.m).2).1)))] rfl Try.func55 (by kernel_rfl) rfl rfl rfl ⟨⟨_, rfl, rfl⟩, ⟨_, rfl, rfl⟩, ⟨_, rfl, rfl⟩, ⟨_, rfl, rfl⟩, trivial⟩ rfl (hres_cons rfl (hres_cons rfl (hres_cons rfl (hres_cons rfl (hres_nil _))))) ⟨⟨_, rfl, rfl, rfl⟩, ⟨_, rfl, rfl, rfl⟩, ⟨_, rfl, rfl, rfl⟩, ⟨_, rfl, rfl, rfl⟩, trivial⟩ rfl (one_okR b s fuel call u r.regs (mstep fuel r.m).2 i.toNat f.regs.toNat hut hI.regs hI.len (mstep_good hI.good) hsf hbw hs huw (fun j h1 h2 => hcall j _ h1 (by omega) hsf (mstep_good hI.good)))) ?_
    refine an ?_
    refine asr ?_
    refine am 48 ?_
    refine aq 49 (q_nilCheck rfl rfl rfl) ?_
    refine af 50 tok ?_
    refine al 51 tok ?_
    refine aqb ?_
    refine an ?_
    refine AGo.split 52 rfl (fun hb4 => ?_) (fun hb4 => ?_)
    ·
     refine act ?_
     have hnz := hb4
     refine AGo.ret ?_
     refine ⟨[], trivial, rfl, ?_⟩
     rw [show (mblk call s fuel f (fuel.toNat + 1) 0 (List.replicate f.regs.toNat 0) m) = _ from fin_B hF hk hI hu hst hnz]
     exact HSub.put (HSub.put (HSub.put (HSub.none _) rfl) rfl) rfl
    ·
     refine acf ?_
     have hnz := hb4
     refine AGo.skip ?_
     refine AGo.region ?_
     refine am 35 ?_
     refine aq 36 (q_inc rfl rfl hjl (hfl k hkm)) ?_
     refine aa 8 ?_
     refine an ?_
     exact ⟨⟨r.j + 1, (mone call s u r.regs (mstep fuel r.m).2).1, (mone call s u r.regs (mstep fuel r.m).2).2⟩, Drop.mk' z17q z13q, (hI.next hcg hcs hu huw hst hnz), (by show k.ins.length - (r.j + 1) < k.ins.length - r.j; omega)⟩
  ·
   refine acf ?_
   have hge := ge_of_idx hb2
   refine AGo.exit ?_
   refine AGo.seq ?_
   refine asr ?_
   refine am 53 ?_
   refine ax 54 (o_call (hc := (mheap hNew b s fuel r.m)) (hw := (mheap hNone b s fuel (mstep fuel r.m).2)) [2, 1, 0] [(0, (.row false 9 [runCells b s fuel (mstep fuel r.m).2])), (1, (.row true 1 (regCells ((mstep fuel r.m).2).words))), (2, (.row true 1 (byteCells ((mstep fuel r.m).2).out)))] rfl Try.func54 (by kernel_rfl) rfl rfl rfl ⟨⟨_, rfl, rfl⟩, ⟨_, rfl, rfl⟩, ⟨_, rfl, rfl⟩, trivial⟩ rfl (hres_cons rfl (hres_cons rfl (hres_cons rfl (hres_nil _)))) ⟨⟨_, rfl, rfl, rfl⟩, ⟨_, rfl, rfl, rfl⟩, ⟨_, rfl, rfl, rfl⟩, trivial⟩ rfl (step_ok b s fuel r.m hfu)) ?_
   refine aq 55 (q_not rfl rfl) ?_
   refine am 56 ?_
   refine AOps.split 56 rfl (fun hb5 => ?_) (fun hb5 => ?_)
   ·
    iterate 3 refine ak _ ?_
    refine apt ?_
    refine an ?_
    refine act ?_
    refine AGo.ret ?_
    refine ⟨[], trivial, rfl, ?_⟩
    rw [show (mblk call s fuel f (fuel.toNat + 1) 0 (List.replicate f.regs.toNat 0) m) = _ from fin_C hF hk hI hge (by first | exact .inl (by simpa using ‹(!(mstep fuel r.m).1) = true›) | exact .inr ‹_›)]
    exact HSub.put (HSub.put (HSub.put (HSub.none _) rfl) rfl) rfl
   ·
    have hst : (mstep fuel r.m).1 = true := by simpa using hb5
    refine af 57 tok ?_
    refine al 58 tok ?_
    refine aqb ?_
    refine apf ?_
    refine an ?_
    refine AGo.split 60 rfl (fun hb6 => ?_) (fun hb6 => ?_)
    ·
     refine act ?_
     refine AGo.ret ?_
     refine ⟨[], trivial, rfl, ?_⟩
     rw [show (mblk call s fuel f (fuel.toNat + 1) 0 (List.replicate f.regs.toNat 0) m) = _ from fin_C hF hk hI hge (by first | exact .inl (by simpa using ‹(!(mstep fuel r.m).1) = true›) | exact .inr ‹_›)]
     exact HSub.put (HSub.put (HSub.put (HSub.none _) rfl) rfl) rfl
    ·
     refine acf ?_
     refine AGo.skip ?_
     refine asr ?_
     refine af 61 tok ?_
     refine al 62 tok ?_
     refine aa 6 ?_
     refine an ?_
     refine asr ?_
     refine af 63 tok ?_
     refine al 64 tok ?_
     refine aqb ?_
     refine am 66 ?_
     refine AOps.split 66 rfl (fun hb7 => ?_) (fun hb7 => ?_)
     ·
      have hv := ends_v hks.1 hb7
      refine am 67 ?_
      refine af 68 tok ?_
      refine al 69 tok ?_
      refine aq 70 (q_index_ref tok rfl rfl rfl rfl rfl rfl rfl (by rw [regCells_len, hI.len]) rfl hv.1 (by have := hv.2; omega)) ?_
      refine aq 71 (q_load tok rfl rfl rfl (.ptr _ _ _ _ _ _ _ _ rfl (by rw [regCells_len, hI.len]) (rcell (by have := hv; have := hI.len; omega))) rfl) ?_
      refine aqb ?_
      refine apt ?_
      refine an ?_
      refine AGo.split 73 rfl (fun hb8 => ?_) (fun hb8 => ?_)
      ·
       refine act ?_
       refine AGo.region ?_
       refine af 74 tok ?_
       refine al 75 tok ?_
       refine aa 6 ?_
       refine an ?_
       have hft : (k.fin == 3) = false := by simp_all
       have hnx := hF.next hk hI hge hst hft (ends_next hks.1 hft r.regs)
       exact ⟨⟨k.next r.regs, r.regs, (mstep fuel r.m).2, q.g - 1⟩, Drop.mk' z12q z13q, hnx.1, hnx.2⟩
      ·
       refine acf ?_
       refine AGo.skip ?_
       have hft : (k.fin == 3) = false := by simp_all
       have hnx := hF.next hk hI hge hst hft (ends_next hks.1 hft r.regs)
       exact ⟨⟨k.next r.regs, r.regs, (mstep fuel r.m).2, q.g - 1⟩, Drop.mk' z12q z13q, hnx.1, hnx.2⟩
     ·
      iterate 6 refine ak _ ?_
      refine apf ?_
      refine an ?_
      refine acf ?_
      refine AGo.skip ?_
      have hft : (k.fin == 3) = false := by simp_all
      have hnx := hF.next hk hI hge hst hft (ends_next hks.1 hft r.regs)
      exact ⟨⟨k.next r.regs, r.regs, (mstep fuel r.m).2, q.g - 1⟩, Drop.mk' z12q z13q, hnx.1, hnx.2⟩
 ·
  refine acf ?_
  have hbad := hb1
  refine AGo.exit ?_
  exact absurd hF.fin (by simpa using hbad)
theorem fun_ok (b : Blocks) (s : ByteArray) (fuel : Int) (hfu : fuel ≤ 9223372036854775807) (hs : s.size ≤ 9223372036854775807) (hb : b.right = true) (hbw : b.insW) (hbl : ∀ f ∈ b.funcs, ∀ x ∈ f.blocks, x.ins.length ≤ maxLen) :
    ∀ (n : Nat) (i : Int) (m : Mach), 0 ≤ i → i < n → i < b.funcs.length → m.fin = 0 → m.good b.words.toNat → ACall Try.prog 34 [.ptr 0 1 0 0, .int .i64 i] (mheap hNew b s fuel m) (fun r h' => r = .tup [] ∧ HSub (mheap hNone b s fuel (mfun b s fuel n i m)) h')
  | 0, i, m, h1, h2, _, _, _ => absurd h2 (by omega)
  | n + 1, i, m, h1, h2, h3, h4, h5 => by
    obtain ⟨f, hf⟩ := get_of_lt (l := b.funcs) (k := i.toNat) (by omega)
    have hr := right_spec hb
    have hfm := List.mem_of_getElem? hf
    have hone : f.one i b.words = true := by
      have := hr.2.2.2 i.toNat f hf
      rwa [Int.toNat_of_nonneg h1] at this
    have key := fun_step b s fuel (mfun b s fuel n) i f m hfu hs hr.2.1 hf h1 hone (hbw f hfm) (hbl f hfm)
      (fun j m' j1 j2 j3 j4 => fun_ok b s fuel hfu hs hb hbw hbl n j m' j1 (by omega) (by omega) j3 j4) (fun j m' hg => mfun_good hbw n j m' hg) (fun j m' => mfun_steps n j m') h5 h4
    have e : mfun b s fuel (n + 1) i m = mblk (mfun b s fuel n) s fuel f (fuel.toNat + 1) 0 (List.replicate f.regs.toNat 0) m := by
      rw [mfun, hf]
    rw [e]; exact key
set_option maxRecDepth 100000 in
theorem run_ok (b : Blocks) (s : ByteArray) (fuel : Int) (hfu : fuel ≤ 9223372036854775807) (hs : s.size ≤ 9223372036854775807) (hb : b.right = true) (hbw : b.insW) (hbl : ∀ f ∈ b.funcs, ∀ x ∈ f.blocks, x.ins.length ≤ maxLen) : APure Try.prog 18 [.agg b.cells, .str s, .int .i64 fuel] (fun r => r = .agg (resCells (mrun b s fuel))) := by
 have hr := right_spec hb
 have hne : 0 < b.funcs.length := List.length_pos_iff.2 hr.2.2.1
 refine APure.of_body (n := 51) tok Try.func18 rfl rfl ?_
 refine AGo.seq ?_
 refine AGo.slot 0 rfl (fun H ι v => rel_prog) (fun hfit => ?_)
 refine AGo.region ?_
 refine ax 3 (o_box (sz := 2) 3 rfl rfl rfl rfl (Nat.zero_lt_succ _) rfl) ?_
 refine ax 6 (o_alloc tok 4 rfl rfl rfl rfl (Nat.zero_lt_succ _) rfl) ?_
 refine an ?_
 refine AGo.seq ?_
 refine asr ?_
 refine af 8 tok ?_
 refine al 9 tok ?_
 refine aq 10 (q_len tok rfl rfl rfl rfl rfl) ?_
 refine aqb ?_
 refine an ?_
 refine AGo.split 11 rfl (fun hb1 => ?_) (fun hb1 => ?_)
 ·
  refine act ?_
  refine asr ?_
  refine aq 12 (q_build tok rfl rfl rfl rfl rfl (by decide) rfl rfl rfl) ?_
  refine AOps.w rfl rfl (o_store tok rfl rfl rfl rfl rfl rfl rfl rfl rfl (by decide) rfl z30q) ?_
  refine an ?_
  refine AGo.ret ?_
  exact absurd hne (by have h := hb1; simp [funcsAV] at h; simp [h])
 ·
  refine acf ?_
  refine AGo.skip ?_
  refine AGo.seq ?_
  refine AGo.join (γ := Unit) (fun _u => ⟨51, (eput (eput (eput (eput (eput eNew 0 (.agg b.cells)) 1 (.str s)) 3 (.ptr 3 1 0 0)) 6 (.ptr 4 1 0 0)) 2 (.int .i64 (fuel0 fuel))), (hput (hput (hput (hput (hput (hFrom 5) 3 (.row false 2 [b.cells])) 4 (.row false 3 [[.int .i64 0, .str .empty, .int .i64 0]])) 0 .free) 1 .free) 2 .free)⟩) (fun _u => True) ?_ ?_
  ·
   refine asr ?_
   refine am 13 ?_
   refine aqb ?_
   refine an ?_
   refine AGo.split 14 rfl (fun hb2 => ?_) (fun hb2 => ?_)
   ·
    refine act ?_
    refine AGo.region ?_
    refine aa 2 ?_
    refine an ?_
    exact ⟨(), Sub.mk' (by repeat (first | exact ESub.new _ | refine ESub.put ?_ (by first | rfl | exact congrArg (fun (n : Int) => some (AV.int .i64 n)) (by simp [fuel0, *])))) z9q, trivial⟩
   ·
    refine acf ?_
    refine AGo.skip ?_
    exact ⟨(), Sub.mk' (by repeat (first | exact ESub.new _ | refine ESub.put ?_ (by first | rfl | exact congrArg (fun (n : Int) => some (AV.int .i64 n)) (by simp [fuel0, *])))) z9q, trivial⟩
  intro _u _
  refine AGo.seq ?_
  have hfu0 : fuel0 fuel ≤ 9223372036854775807 := by unfold fuel0; cases decide (fuel < 0) <;> simp <;> omega
  have m0_good : (m0 b).good b.words.toNat := ⟨by simp [m0], allR_rep _, by simp [m0]⟩
  refine AGo.draw mix ?_
  refine dl 15 tok ?_
  refine dm 16 ?_
  refine dm 17 ?_
  refine df 18 tok ?_
  refine dl 19 tok ?_
  refine dx 20 (o_makeSlice tok (n := b.words.toNat) (m := b.words.toNat) 1 true rfl rfl rfl (by have := hr.1; omega) (by have := hr.1; omega) rfl rfl rfl rfl rfl (Nat.zero_lt_succ _) rfl (Nat.le_refl _) (by show 4 * b.words.toNat ≤ _; have := hr.2.1; omega) (by simp only [maxLen]; have := hr.2.1; omega)) ?_
  refine dq 21 (q_build tok rfl rfl rfl rfl rfl (by decide) rfl rfl rfl) ?_
  refine dx 22 (o_box (sz := 9) 0 rfl rfl rfl rfl (Nat.zero_lt_succ _) rfl) ?_
  refine da 7 ?_
  refine DOps.nil (by kernel_rfl) ?_
  refine AGo.seq ?_
  refine AGo.ghost (.dryCell 0 0 5 2 1 true rfl rfl rfl rfl rfl (by decide)) ?_
  refine AGo.sub (s' := ⟨51, (eput (eput (eput (eput (eput eNew 0 (.agg b.cells)) 1 (.str s)) 3 (.ptr 3 1 0 0)) 6 (.ptr 4 1 0 0)) 7 (.ptr 0 1 0 0)), (hput (hput (hput (hput (hput hNone 0 (.row false 9 [runCells b s (fuel0 fuel) (m0 b)])) 1 (.row true 1 (regCells ((m0 b)).words))) 2 (.row true 1 (byteCells ((m0 b)).out))) 3 (.row false 2 [b.cells])) 4 (.row false 3 [[.int .i64 0, .str .empty, .int .i64 0]]))⟩) (Sub.mk' z26q z6q) ?_
  refine AGo.region ?_
  have hmx := hfit.1
  refine am 23 ?_
  refine af 24 tok ?_
  refine al 25 tok ?_
  refine aq 26 (q_len tok rfl rfl rfl rfl rfl) ?_
  refine aq 27 (q_bin (r := .int .i64 ((b.funcs.length : Int) - 1)) rfl rfl rfl (by simp only [evalBin, evalInt, isShift, cond_false, if_true]; rw [List.length_map, wrap_i64 (by omega) (by simp only [maxLen] at hmx; omega)])) ?_
  refine ax 28 (o_call (hc := (mheap hNew b s (fuel0 fuel) (m0 b))) (hw := (mheap hNone b s (fuel0 fuel) (mfun b s (fuel0 fuel) b.funcs.length ((b.funcs.length : Int) - 1) (m0 b)))) [2, 1, 0] [(0, (.row false 9 [runCells b s (fuel0 fuel) (mfun b s (fuel0 fuel) b.funcs.length ((b.funcs.length : Int) - 1) (m0 b))])), (1, (.row true 1 (regCells ((mfun b s (fuel0 fuel) b.funcs.length ((b.funcs.length : Int) - 1) (m0 b))).words))), (2, (.row true 1 (byteCells ((mfun b s (fuel0 fuel) b.funcs.length ((b.funcs.length : Int) - 1) (m0 b))).out)))] rfl Try.func34 (by kernel_rfl) rfl rfl rfl ⟨⟨_, rfl, rfl⟩, ⟨_, rfl, rfl⟩, ⟨_, rfl, rfl⟩, trivial⟩ rfl (hres_cons rfl (hres_cons rfl (hres_cons rfl (hres_nil _)))) ⟨⟨_, rfl, rfl, rfl⟩, ⟨_, rfl, rfl, rfl⟩, ⟨_, rfl, rfl, rfl⟩, trivial⟩ rfl (fun_ok b s (fuel0 fuel) hfu0 hs hb hbw hbl b.funcs.length ((b.funcs.length : Int) - 1) (m0 b) (by omega) (by omega) (by omega) rfl m0_good)) ?_
  refine an ?_
  refine AGo.seq ?_
  refine AGo.join (γ := Mach) (fun m => ⟨51, (eput (eput (eput (eput (eput eNew 0 (.agg b.cells)) 1 (.str s)) 3 (.ptr 3 1 0 0)) 6 (.ptr 4 1 0 0)) 7 (.ptr 0 1 0 0)), (hput (hput (hput (hput (hput hNone 0 (.row false 9 [runCells b s (fuel0 fuel) m])) 1 (.row true 1 (regCells (m).words))) 2 (.row true 1 (byteCells (m).out))) 3 (.row false 2 [b.cells])) 4 (.row false 3 [[.int .i64 0, .str .empty, .int .i64 0]]))⟩) (fun m => m = mrun b s fuel) ?_ ?_
  ·
   refine asr ?_
   refine am 29 ?_
   refine aq 30 (q_nilCheck rfl rfl rfl) ?_
   refine af 31 tok ?_
   refine al 32 tok ?_
   refine aqb ?_
   refine an ?_
   refine AGo.split 33 rfl (fun hb3 => ?_) (fun hb3 => ?_)
   ·
    refine act ?_
    refine AGo.region ?_
    refine am 34 ?_
    refine aq 35 (q_nilCheck rfl rfl rfl) ?_
    refine af 36 tok ?_
    refine AOps.w rfl rfl (o_store tok rfl rfl rfl rfl rfl rfl rfl rfl rfl (by decide) rfl z30q) ?_
    refine an ?_
    exact ⟨{ (mfun b s (fuel0 fuel) b.funcs.length ((b.funcs.length : Int) - 1) (m0 b)) with fin := 1 }, Sub.mk' z26q z9q, (by simp [mrun, *])⟩
   ·
    refine acf ?_
    refine AGo.skip ?_
    exact ⟨(mfun b s (fuel0 fuel) b.funcs.length ((b.funcs.length : Int) - 1) (m0 b)), Sub.mk' z26q z9q, (by simp [mrun, *])⟩
  intro m hm
  refine AGo.seq ?_
  refine AGo.ghost (.freezeCell 0 0 5 2 rfl rfl rfl rfl (by simp [byteCells]) (by decide)) ?_
  refine AGo.draw mix ?_
  refine dm 37 ?_
  refine dq 38 (q_nilCheck rfl rfl rfl) ?_
  refine df 39 tok ?_
  refine dl 40 tok ?_
  refine dm 41 ?_
  refine dq 42 (q_nilCheck rfl rfl rfl) ?_
  refine df 43 tok ?_
  refine dl 44 tok ?_
  refine dq 45 (q_bytesStr (l := m.out) tok rfl (by show some (AV.lst false _) = _; rw [List.drop_zero, List.take_of_length_le (by simp [byteCells])]) rfl rfl rfl rfl rfl rfl) ?_
  refine dm 46 ?_
  refine dq 47 (q_nilCheck rfl rfl rfl) ?_
  refine df 48 tok ?_
  refine dl 49 tok ?_
  refine dq 50 (q_build tok rfl rfl rfl rfl rfl (by decide) rfl rfl rfl) ?_
  refine DOps.w rfl rfl (o_store tok rfl rfl rfl rfl rfl rfl rfl rfl rfl (by decide) rfl z30q) ?_
  refine DOps.nil (by kernel_rfl) ?_
  refine AGo.ret ?_
  refine ⟨[_], ⟨⟨_, _, _, _, rfl, rfl, .ptr _ _ _ _ _ _ _ _ rfl rfl rfl, rfl⟩, trivial⟩, ?_, rfl⟩
  subst hm
  rfl
set_option maxRecDepth 100000 in
theorem num25_ok (n : Int) : APure Try.prog 21 [.int .u32 n] (fun r => r = .agg (eNum n).cells) := by
 refine APure.of_body (n := 5) tok Try.func21 rfl rfl ?_
 refine asr ?_
 refine ax 2 (o_alloc tok 0 rfl rfl rfl rfl (Nat.zero_lt_succ _) rfl) ?_
 refine an ?_
 refine asr ?_
 refine am 3 ?_
 refine aq 4 (QLoc.weakN (y := .agg (eNum n).cells) (q_build tok rfl rfl rfl rfl rfl (by decide) rfl rfl rfl) (fun _ _ _ h => agg_fix h rfl)) ?_
 refine AOps.w rfl rfl (o_store tok rfl rfl rfl rfl rfl rfl rfl rfl rfl (by decide) rfl z30q) ?_
 refine an ?_
 refine AGo.ret ?_
 refine ⟨[_], ⟨⟨_, _, _, _, rfl, rfl, .ptr _ _ _ _ _ _ _ _ rfl rfl rfl, rfl⟩, trivial⟩, ?_, rfl⟩
 rfl
set_option maxRecDepth 100000 in
theorem put25_ok (e : CE) : APure Try.prog 22 [.agg e.cells] (fun r => r = .agg (sPut e).cells) := by
 obtain ⟨k_, o_, n_, s_, z_, l_⟩ := e
 refine APure.of_body (n := 6) tok Try.func22 rfl rfl ?_
 refine asr ?_
 refine ax 1 (o_box (sz := 6) 0 rfl rfl rfl rfl (Nat.zero_lt_succ _) rfl) ?_
 refine ax 2 (o_alloc tok 1 rfl rfl rfl rfl (Nat.zero_lt_succ _) rfl) ?_
 refine an ?_
 refine asr ?_
 refine al 3 tok ?_
 refine ax 4 (o_lit' tok rfl rfl rfl rfl rfl rfl (by decide) rfl rfl rfl rfl rfl rfl) ?_
 refine aq 5 (QLoc.weakN (y := .agg (sPut (.mk k_ o_ n_ s_ z_ l_)).cells) (q_build tok rfl rfl rfl rfl rfl (by decide) rfl rfl rfl) (fun _ _ _ h => agg_fix h rfl)) ?_
 refine AOps.w rfl rfl (o_store tok rfl rfl rfl rfl rfl rfl rfl rfl rfl (by decide) rfl z30q) ?_
 refine an ?_
 refine AGo.ret ?_
 refine ⟨[_], ⟨⟨_, _, _, _, rfl, rfl, .ptr _ _ _ _ _ _ _ _ rfl rfl rfl, rfl⟩, trivial⟩, ?_, rfl⟩
 rfl
set_option maxRecDepth 100000 in
theorem alive25_ok  : APure Try.prog 12 [] (fun r => r = .bool true) := by
 refine APure.of_body (n := 21) tok Try.func12 rfl rfl ?_
 refine asr ?_
 refine aa 0 ?_
 refine an ?_
 refine asr ?_
 refine ax 3 (o_pure rfl Try.func21 (by kernel_rfl) rfl rfl rfl (num25_ok 65)) ?_
 refine ax 4 (o_pure rfl Try.func22 (by kernel_rfl) rfl rfl rfl (put25_ok (eNum 65))) ?_
 refine ax 5 (o_lit' tok rfl rfl rfl rfl rfl rfl (by decide) rfl rfl rfl rfl rfl rfl) ?_
 refine aq 6 (q_build tok rfl rfl rfl rfl rfl (by decide) rfl rfl rfl) ?_
 refine ax 7 (o_lit' tok rfl rfl rfl rfl rfl rfl (by decide) rfl rfl rfl rfl rfl rfl) ?_
 refine aq 8 (q_build tok rfl rfl rfl rfl rfl (by decide) rfl rfl rfl) ?_
 refine ax 1 (o_alloc tok 0 rfl rfl rfl rfl (Nat.zero_lt_succ _) rfl) ?_
 refine AOps.w rfl rfl (o_store tok rfl rfl rfl rfl rfl rfl rfl rfl rfl (by decide) rfl z30q) ?_
 refine an ?_
 refine asr ?_
 refine al 9 tok ?_
 refine ax 10 (o_pure rfl Try.func14 (by kernel_rfl) rfl rfl rfl (buildOf_ok aliveC alive_bld.ok alive_bld.r alive_bld.okL alive_bld.partsL)) ?_
 refine ax 2 (o_alloc tok 1 rfl rfl rfl rfl (Nat.zero_lt_succ _) rfl) ?_
 refine AOps.w rfl rfl (o_store tok rfl rfl rfl rfl rfl rfl rfl rfl rfl (by decide) rfl z30q) ?_
 refine an ?_
 refine AGo.seq ?_
 refine AGo.draw mix ?_
 refine dl 11 tok ?_
 refine dx 12 (o_pure rfl Try.func15 (by kernel_rfl) rfl rfl rfl ((right_ok aliveC.build).mono (fun r h => by rw [h, alive_bld.right]))) ?_
 refine dm 13 ?_
 refine dl 14 tok ?_
 refine dl 15 tok ?_
 refine dx 16 (o_pure rfl Try.func19 (by kernel_rfl) rfl rfl rfl (fuel25_ok aliveC 0 alive_bld.ok (by have := alive_bld.parts; omega) alive_bld.r.w0 (by have := alive_bld.r.w1; omega) (by first | decide | omega) (by first | decide | omega))) ?_
 refine dx 17 (o_pure rfl Try.func18 (by kernel_rfl) rfl rfl rfl (run_ok aliveC.build ⟨#[]⟩ _ (fuel_le (n := 0) (by decide) alive_bld.kle) (by first | decide | omega) alive_bld.right alive_bld.w alive_bld.ins2)) ?_
 refine dq 18 (q_build tok rfl rfl rfl rfl rfl (by decide) rfl rfl rfl) ?_
 refine dx 19 (o_pure rfl Try.func17 (by kernel_rfl) rfl rfl rfl ((ends10_ok _ ⟨[], [65], 0, 0, 1⟩).mono (fun r h => h.trans (congrArg AV.bool (ends_true (alive_ends _).1 (alive_ends _).2))))) ?_
 refine dq 20 (q_pick_true true rfl rfl rfl rfl) ?_
 refine da 0 ?_
 refine DOps.nil (by kernel_rfl) ?_
 refine AGo.ret ?_
 refine ⟨[_], ⟨rfl, trivial⟩, ?_, rfl⟩
 rfl
set_option maxHeartbeats 2000000 in
set_option maxRecDepth 100000 in
theorem buildWide_ok (many n : Int) (hm : 0 ≤ many ∧ many ≤ 255) (hn : isW n) : APure Try.prog 7 [.int .u8 many, .int .u32 n] (fun r => r = .bool true) := by
 refine APure.of_body (n := 63) tok Try.func7 rfl rfl ?_
 refine asr ?_
 refine aa 4 ?_
 refine an ?_
 refine AGo.seq ?_
 refine asr ?_
 refine ax 13 (o_pure rfl Try.func12 (by kernel_rfl) rfl rfl rfl (alive25_ok)) ?_
 refine aq 14 (q_not rfl rfl) ?_
 refine an ?_
 refine acf ?_
 have hW := wide_bld hn (many := many.toNat + 1) (by omega)
 have hend := wide_ends hn (many := many.toNat + 1) (by omega) ⟨#[]⟩
 refine AGo.skip ?_
 refine asr ?_
 refine am 15 ?_
 refine ax 16 (o_pure rfl Try.func21 (by kernel_rfl) rfl rfl rfl (num25_ok n)) ?_
 refine ax 5 (o_alloc tok 0 rfl rfl rfl rfl (Nat.zero_lt_succ _) rfl) ?_
 refine AOps.w rfl rfl (o_store tok rfl rfl rfl rfl rfl rfl rfl rfl rfl (by decide) rfl z30q) ?_
 refine an ?_
 refine asr ?_
 refine am 17 ?_
 refine aa 6 ?_
 refine an ?_
 refine AGo.seq ?_
 refine asr ?_
 refine aa 7 ?_
 refine an ?_
 refine AGo.block ?_
 refine AGo.loopD (γ := Nat) 1 (fun i => ⟨63, (eput (eput (eput (eput (eput eNew 0 (.int .u8 many)) 1 (.int .u32 n)) 5 (.ptr 0 1 0 0)) 6 (.int .u32 (wsum n i))) 7 (.int .i64 (i : Int))), (hput (hFrom 1) 0 (.row false 6 [(eWide n i).cells]))⟩) (fun i => i ≤ 20) (fun i => 20 - i) 0 (Sub.mk' z26q z9q) (Nat.zero_le _) (fun _ => hput_free (fun b hb => hFrom_free hb) rfl) ?_
 intro i hi
 obtain ⟨k_, o_, n_, s_, z_, l_, he⟩ := ce_mk (eWide n i)
 rw [he]
 refine AGo.seq ?_
 refine asr ?_
 refine am 18 ?_
 refine aqb ?_
 refine an ?_
 refine AGo.split 19 rfl (fun hb1 => ?_) (fun hb1 => ?_)
 ·
  refine act ?_
  have hil : i < 20 := by have h := hb1; simp at h; omega
  refine AGo.skip ?_
  refine AGo.seq ?_
  refine AGo.block ?_
  refine AGo.seq ?_
  refine AGo.draw mix ?_
  refine dx 22 (o_pure rfl Try.func21 (by kernel_rfl) rfl rfl rfl (num25_ok 1)) ?_
  refine dl 23 tok ?_
  refine dx 24 (o_lit' tok rfl rfl rfl rfl rfl rfl (by decide) rfl rfl rfl rfl rfl rfl) ?_
  refine dq 25 (QLoc.weakN (y := .agg (CE.mk 6 4 0 0 0 [eNum 1, .mk k_ o_ n_ s_ z_ l_]).cells) (q_build tok rfl rfl rfl rfl rfl (by decide) rfl rfl rfl) (fun _ _ _ h => agg_fix h rfl)) ?_
  refine DOps.w rfl rfl (o_store tok rfl rfl rfl rfl rfl rfl rfl rfl rfl (by decide) rfl z30q) ?_
  refine DOps.nil (by kernel_rfl) ?_
  refine AGo.region ?_
  refine am 26 ?_
  refine aq 27 (q_bin (r := .int .u32 (wsum n (i + 1))) rfl rfl rfl (by simp only [evalBin, evalInt, isShift, cond_false, if_true]; rw [IntKind.wrap_u32]; rfl)) ?_
  refine aa 6 ?_
  refine an ?_
  refine AGo.region ?_
  refine am 20 ?_
  refine aq 21 (q_inc rfl rfl hil (by simp only [maxLen]; omega)) ?_
  refine aa 7 ?_
  refine an ?_
  exact ⟨i+1, Drop.mk' z17q (by repeat (first | exact HDrop.none _ _ | exact HDrop.tail _ _ | refine HDrop.put ?_ (by first | rfl | (rw [show eWide n (i + 1) = .mk 6 4 0 0 0 [eNum 1, eWide n i] from rfl, he]; rfl)) rfl (by first | rfl | exact slO_avoid _ _ | exact vaO_avoid _ | exact tab_avoid _ _ rfl rfl | exact wlk_avoid _ _ _ rfl rfl rfl))), hil, by omega⟩
 ·
  refine acf ?_
  have hie : i = 20 := by have h := hb1; simp at h; omega
  rw [← he]
  subst hie
  refine AGo.exit ?_
  refine asr ?_
  refine aa 8 ?_
  refine an ?_
  refine asr ?_
  refine aa 9 ?_
  refine an ?_
  refine AGo.seq ?_
  refine AGo.seq ?_
  refine AGo.ghost (Ghost.weakSlot 8 rfl (Wkb.nil 1).2) ?_
  refine AGo.region ?_
  refine aa 10 ?_
  refine an ?_
  refine AGo.block ?_
  refine AGo.loopD (γ := Nat) 2 (fun k => ⟨63, (eput (eput (eput (eput (eput (eput eNew 0 (.int .u8 many)) 5 (.ptr 0 1 0 0)) 6 (.int .u32 (wsum n 20))) 8 (slA 1 ((List.replicate k (sPut (eWide n 20))).map CS.cells))) 9 (.str ⟨(List.replicate k (byteOf (wsum n 20))).toArray⟩)) 10 (.int .i64 (k : Int))), (hput (hput (hFrom 2) 0 (.row false 6 [(eWide n 20).cells])) 1 (slO 6 ((List.replicate k (sPut (eWide n 20))).map CS.cells)))⟩) (fun k => k ≤ many.toNat + 1) (fun k => many.toNat + 1 - k) 0 (Sub.mk' z26q z9q) (Nat.zero_le _) (fun _ => hput_free (hput_free (fun b hb => hFrom_free hb) rfl) rfl) ?_
  intro k hk
  refine AGo.seq ?_
  refine asr ?_
  refine am 28 ?_
  refine am 29 ?_
  refine aq 30 (q_convTo tok rfl rfl rfl rfl rfl (r := many) (wrap_i64 (by omega) (by omega))) ?_
  refine aqb ?_
  refine an ?_
  refine AGo.split 31 rfl (fun hb2 => ?_) (fun hb2 => ?_)
  ·
   refine act ?_
   have hkl : k ≤ many.toNat := by have h := hb2; simp at h; omega
   refine AGo.skip ?_
   refine AGo.seq ?_
   refine AGo.block ?_
   refine asr ?_
   refine am 34 ?_
   refine al 35 tok ?_
   refine ax 36 (o_pure rfl Try.func22 (by kernel_rfl) rfl rfl rfl (put25_ok (eWide n 20))) ?_
   refine ax 37 (o_lit' tok rfl rfl rfl rfl rfl rfl (by decide) rfl rfl rfl rfl rfl rfl) ?_
   refine ax 38 (o_append1J tok (b := 1) (es := ((List.replicate k (sPut (eWide n 20))).map CS.cells)) rfl rfl rfl rfl rfl rfl rfl rfl rfl rfl rfl (Nat.zero_lt_succ _) (cs_len _) (cs_pure _) rfl rfl (by rw [List.length_map, List.length_replicate]; show (_ + 1) * 96 ≤ _; omega) (by rw [List.length_map, List.length_replicate]; simp only [maxLen]; omega)) ?_
   refine aa 8 ?_
   refine an ?_
   refine AGo.region ?_
   refine am 39 ?_
   refine am 40 ?_
   refine aq 41 (q_bin (r := .int .u32 ((wsum n 20).tmod 256)) rfl rfl rfl (by rfl)) ?_
   refine aq 42 (q_convTo tok rfl rfl rfl rfl rfl (r := ((byteOf (wsum n 20)).toNat : Int)) (byte_mod (wsum_w hn 20))) ?_
   refine ax 43 (o_lit' tok rfl rfl rfl rfl rfl rfl (by decide) rfl rfl rfl rfl rfl rfl) ?_
   refine aq 44 (q_bytesStr (l := [byteOf (wsum n 20)]) tok rfl rfl rfl rfl rfl rfl rfl rfl) ?_
   refine aq 45 (q_cat rfl rfl rfl (by rw [strSize, strSize, List.length_replicate]; show k + 1 ≤ _; simp only [maxLen]; omega)) ?_
   refine aa 9 ?_
   refine an ?_
   refine AGo.region ?_
   refine am 32 ?_
   refine aq 33 (q_inc rfl rfl (show k < 1000 by omega) (by simp only [maxLen]; omega)) ?_
   refine aa 10 ?_
   refine an ?_
   exact ⟨k+1, Drop.mk' (by repeat (first | exact EDrop.new _ _ | refine EDrop.put ?_ (by first | rfl | exact congrArg (fun es => some (slA 1 es)) (rep_map CS.cells k _) | exact congrArg (fun x => some (AV.str x)) ((strSnoc _ _).trans (congrArg (fun l : List UInt8 => (⟨l.toArray⟩ : ByteArray)) (rep_snoc k _)))) (by first | rfl | exact slA_avoid _ rfl | exact vaA_avoid _ rfl))) (by repeat (first | exact HDrop.none _ _ | exact HDrop.tail _ _ | refine HDrop.put ?_ (by first | rfl | exact congrArg (fun es => some (slO 6 es)) (rep_map CS.cells k _)) rfl (by first | rfl | exact slO_avoid _ _))), (by omega), by omega⟩
  ·
   refine acf ?_
   have hke : k = many.toNat + 1 := by have h := hb2; simp at h; omega
   subst hke
   refine AGo.exit ?_
   refine AGo.seq ?_
   refine AGo.ghost (Ghost.endJ (f := _) 8 1 rfl rfl) ?_
   refine AGo.region ?_
   refine am 46 ?_
   refine aq 47 (q_build tok rfl rfl rfl rfl rfl (by decide) rfl rfl rfl) ?_
   refine ax 48 (o_lit' tok rfl rfl rfl rfl rfl rfl (by decide) rfl rfl rfl rfl rfl rfl) ?_
   refine aq 49 (q_build tok rfl rfl rfl rfl rfl (by decide) rfl rfl rfl) ?_
   refine ax 11 (o_alloc tok 2 rfl rfl rfl rfl (Nat.zero_lt_succ _) rfl) ?_
   refine AOps.w rfl rfl (o_store tok rfl rfl rfl rfl rfl rfl rfl rfl rfl (by decide) rfl z30q) ?_
   refine an ?_
   refine asr ?_
   refine al 50 tok ?_
   refine ax 51 (o_pure rfl Try.func14 (by kernel_rfl) rfl rfl rfl (buildOf_ok (wideC n (many.toNat + 1)) hW.ok hW.r hW.okL hW.partsL)) ?_
   refine ax 12 (o_alloc tok 3 rfl rfl rfl rfl (Nat.zero_lt_succ _) rfl) ?_
   refine AOps.w rfl rfl (o_store tok rfl rfl rfl rfl rfl rfl rfl rfl rfl (by decide) rfl z30q) ?_
   refine an ?_
   refine AGo.seq ?_
   refine AGo.draw mix ?_
   refine dl 52 tok ?_
   refine dx 53 (o_pure rfl Try.func15 (by kernel_rfl) rfl rfl rfl ((right_ok (wideC n (many.toNat + 1)).build).mono (fun r h => by rw [h, hW.right]))) ?_
   refine dm 54 ?_
   refine dl 55 tok ?_
   refine dl 56 tok ?_
   refine dx 57 (o_pure rfl Try.func19 (by kernel_rfl) rfl rfl rfl (fuel25_ok (wideC n (many.toNat + 1)) 0 hW.ok (by have := hW.parts; omega) hW.r.w0 (by have := hW.r.w1; omega) (by first | decide | omega) (by first | decide | omega))) ?_
   refine dx 58 (o_pure rfl Try.func18 (by kernel_rfl) rfl rfl rfl (run_ok (wideC n (many.toNat + 1)).build ⟨#[]⟩ _ (fuel_le (n := 0) (by decide) hW.kle) (by first | decide | omega) hW.right hW.w hW.ins2)) ?_
   refine dm 59 ?_
   refine dq 60 (q_build tok rfl rfl rfl rfl rfl (by decide) rfl rfl rfl) ?_
   refine dx 61 (o_pure rfl Try.func17 (by kernel_rfl) rfl rfl rfl ((ends10_ok _ ⟨[], List.replicate (many.toNat + 1) (byteOf (wsum n 20)), 0, 0, 1⟩).mono (fun r h => h.trans (congrArg AV.bool (ends_true hend.1 hend.2))))) ?_
   refine dq 62 (q_pick_true true rfl rfl rfl rfl) ?_
   refine da 4 ?_
   refine DOps.nil (by kernel_rfl) ?_
   refine AGo.ret ?_
   refine ⟨[_], ⟨rfl, trivial⟩, ?_, rfl⟩
   rfl
end Go.Proofs.Ytmfihmkopmgelaa.Sv

namespace Go.Proofs.Ytmfihmkopmgelaa
open Go.ChangeShapes Go.WideShapes Go.ChangeAt Go.RowKit Sv
set_option linter.unusedVariables false

set_option maxRecDepth 100000 in
theorem buildWide_lifted (os : Os) (started : os.Started) (H : Type) (enc : TypeId × Value → H) :
    ReturnsInHanded {} Try.checked os 7 .any (Rows.buildWideSpec.pre6 enc Try.prog Try.f7 Rows.buildWideRow.domain false) (Rows.buildWideSpec.post enc Try.prog Try.f7 false true false false) := by
  refine returnsInHanded_of_change_sized (C := Try.checked) own' started (by kernel_rfl) Try.func7
    (ChangeSpec.witness6 (enc := enc) (C := Try.checked) false ⟨#[], #[.int .u8 0, .int .u32 0], []⟩ 8 (by kernel_rfl) (by kernel_rfl) (by kernel_rfl) (by kernel_rfl)) ?_
  intro W base args ds gs before hval0 hW hcnd hwt0 hh
  have hval : ∀ (j : Nat) t v, Try.f7.params[j]? = some t → args[j]? = some v → Value.okWide Try.prog W .any base t v := hval0
  have hW' := hW
  obtain ⟨p, q, hA0, hV, rfl, hfz, hnd⟩ := hW
  have hA : DataW.TrodAll enc Try.prog W 0 (fun _ => true) true Try.f7.params.toList args.toList ds p := hA0
  have hwt : (DataW.weightsEach Try.prog (Try.f7.params.toList ++ Rows.buildWideSpec.plain.varTypes Try.prog) (ds ++ gs)).all (· ≤ reachBytes) = true := hwt0
  rw [Try.params7] at hA hval hwt
  obtain ⟨v0, vs0, d0, ds0, p0, q0, hargs, rfl, rfl, h0, r0⟩ := trodAll_cons hA
  obtain ⟨v1, vs1, d1, ds1, p1, q1, rfl, rfl, rfl, h1, r1⟩ := trodAll_cons r0
  obtain ⟨rfl, rfl, rfl⟩ := trodAll_nil r1
  obtain rfl : args = #[v0, v1] := by cases args; simp_all
  obtain ⟨rfl, rfl⟩ := trodVars_none hV
  obtain ⟨x0, rfl, rfl, rfl, w0⟩ := open_int Try.underlying5 (hval 0 5 v0 rfl rfl) h0
  obtain ⟨x1, rfl, rfl, rfl, w1⟩ := open_int Try.underlying40 (hval 1 40 v1 rfl rfl) h1
  exact law_calls laidOut' rfl (by kernel_rfl) rfl bool' rfl rfl rfl hW' (.cons (.int _ _ _) (.cons (.int _ _ _) .nil)) (buildWide_ok x0 x1 (wf_u8 w0) (wf_u32 w1)) (fun g l h => by cases h)

theorem buildWide_holds : Rows.BuildWideSaid :=
  OpenClaim.holds_of_wide 7 Try.f7 rfl rfl rfl rfl rfl rfl rfl ⟨rfl, rfl, rfl, rfl, rfl⟩ rfl rfl rfl rfl rfl (by kernel_rfl) Try.func7 (by kernel_rfl)
    (of_decide_eq_true (by kernel_rfl)) (by unfold Func.isWrapper; first | (rw [if_pos (by decide +kernel)]; kernel_rfl) | (rw [if_neg (by decide +kernel)]; exact ⟨rfl, rfl⟩))
    (fun os started H enc _ => buildWide_lifted os started H enc)

end Go.Proofs.Ytmfihmkopmgelaa
