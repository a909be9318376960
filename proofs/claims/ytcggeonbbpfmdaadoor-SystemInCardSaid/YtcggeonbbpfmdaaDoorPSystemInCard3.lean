/-
  The law SystemIn of the given program answers true for every input, and leaves its arguments as they were; the package variable that it reads is tied to the program's text. There is no condition. Own work.
  WALKS: printed by a program of our own from the code's tree.
-/
import Derived.Test.YtcggeonbbpfmdaaDoorPSystemInCard2
import Derived.Test.YtcggeonbbpfmdaaDoorCards
import Derived.Test.YtcggeonbbpfmdaaDoorTie
namespace Go.Proofs.YtcggeonbbpfmdaaDoor.Sv
open Go
set_option maxRecDepth 100000 in
theorem digests_ok (l : List ByteArray) (hl : l.length ≤ 1000) (hs : ∀ z ∈ l, z.size ≤ 1000) : APure Tryd.prog 17 [storeAV l] (fun r => r = (digsAV (digsL l))) := by
 have hsl : (l.map fun s => [AV.str s]).length = l.length := List.length_map _
 have hdl := digsL_len l
 refine APure.of_body (n := 24) tok Tryd.func17 rfl rfl ?_
 refine asr ?_
 refine ax 1 (o_box (sz := 1) 0 rfl rfl rfl rfl (Nat.zero_lt_succ _) rfl) ?_
 refine aa 2 ?_
 refine an ?_
 refine asr ?_
 refine af 6 tok ?_
 refine al 7 tok ?_
 refine aq 8 (q_len tok rfl rfl rfl rfl rfl) ?_
 refine ax 9 (o_makeSlice tok (n := 0) (m := l.length) 1 true rfl rfl rfl (rfl) (by rw [hsl]) rfl rfl rfl rfl rfl (Nat.zero_lt_succ _) rfl (Nat.zero_le _) (by show 16 * l.length ≤ _; omega) (by simp only [maxLen]; omega)) ?_
 refine aa 3 ?_
 refine an ?_
 refine AGo.seq ?_
 refine asr ?_
 refine af 10 tok ?_
 refine al 11 tok ?_
 refine aq 12 (q_len tok rfl rfl rfl rfl rfl) ?_
 refine am 13 ?_
 refine an ?_
 refine AGo.block ?_
 refine AGo.loopD (γ := Nat) 2 (fun k => ⟨24, (eput (eput (eput (eput (eput eNew 1 (.ptr 0 1 0 0)) 3 (.ref 1 k 0 k)) 11 (strsAV l)) 12 (.int .i64 ((l.map fun s => [AV.str s]).length : Int))) 13 (.int .i64 (k : Int))), (hput (hput (hFrom 2) 0 (.row false 1 [[strsAV l]])) 1 (.row true 4 (((digsL l).take k).map W4.cells)))⟩) (fun k => k ≤ l.length) (fun k => l.length - k) 0 (Sub.mk' z7q z0q) (Nat.zero_le _) (fun _ => hput_free (hput_free (fun b hb => hFrom_free hb) rfl) rfl) ?_
 intro k hk
 refine asr ?_
 refine aqb ?_
 refine an ?_
 refine AGo.seq ?_
 refine AGo.split 14 rfl (fun hb1 => ?_) (fun hb1 => ?_)
 ·
  refine act ?_
  have hkl : k < l.length := by have h := hb1; simp at h; omega
  obtain ⟨z, hz⟩ := get_of_lt hkl
  refine AGo.skip ?_
  refine AGo.seq ?_
  refine AGo.block ?_
  refine asr ?_
  refine aq 15 (q_index_lst tok rfl rfl rfl rfl rfl rfl (Int.natCast_nonneg _) (str_at hz) rfl) ?_
  refine al 16 tok ?_
  refine aa 5 ?_
  refine an ?_
  refine AGo.region ?_
  refine am 17 ?_
  refine am 18 ?_
  refine ax 19 (o_pure rfl Tryd.func6 (by kernel_rfl) rfl rfl rfl (digOf_ok z (hs z (List.mem_of_getElem? hz)))) ?_
  refine ax 20 (o_lit' tok rfl rfl rfl rfl rfl rfl (by decide) rfl rfl rfl rfl rfl rfl) ?_
  refine ax 21 (o_append tok (n := k) (m := 1) (es := (((digsL l).take k).map W4.cells)) rfl rfl rfl rfl rfl rfl rfl rfl rfl (by rw [List.length_map, List.length_take, hdl]; omega) rfl rfl (Nat.zero_lt_succ _) (.lst _ _) (by intro cs h; simp [partVals] at h; subst h; rfl) (fun _ cs h => by simp [partVals] at h; subst h; rfl) rfl (by simp [partVals]; show _ * 16 ≤ _; omega) (by simp [partVals]; simp only [maxLen]; omega)) ?_
  refine aa 3 ?_
  refine an ?_
  refine AGo.region ?_
  refine aq 22 (q_inc rfl rfl hkl (by simp only [maxLen]; omega)) ?_
  refine am 13 ?_
  refine an ?_
  exact ⟨k+1, Drop.mk' z4q (by repeat (first | exact HDrop.none _ _ | exact HDrop.tail _ _ | refine HDrop.put ?_ (by first | rfl | exact congrArg (fun es => some (AObj.row true 4 es)) (w4_snoc (digsL_get hz))) rfl z6q)), hkl, by omega⟩
 ·
  refine acf ?_
  have hge : l.length ≤ k := by have h := hb1; simp at h; omega
  refine AGo.exit ?_
  refine AGo.seq ?_
  refine AGo.ghost (.freezeW 3 1 rfl rfl (by rw [List.length_map, List.length_take, hdl]; omega)) ?_
  refine AGo.region ?_
  refine am 23 ?_
  refine aa 2 ?_
  refine an ?_
  refine AGo.ret ?_
  refine ⟨[_], ⟨rfl, trivial⟩, ?_, rfl⟩
  show AV.lst false _ = AV.lst false _
  rw [List.take_of_length_le (show (digsL l).length ≤ k by omega)]
set_option maxRecDepth 100000 in
theorem index_ok (l : List W4) (d : W4) (hl : l.length ≤ 1000) : APure Tryd.prog 18 [(digsAV l), .agg d.cells] (fun r => r = .int .i64 (findI l d)) := by
 refine APure.of_body (n := 19) tok Tryd.func18 rfl rfl ?_
 refine asr ?_
 refine ax 3 (o_box (sz := 4) 0 rfl rfl rfl rfl (Nat.zero_lt_succ _) rfl) ?_
 refine aa 4 ?_
 refine an ?_
 refine AGo.seq ?_
 refine asr ?_
 refine am 6 ?_
 refine aq 7 (q_len tok rfl rfl rfl rfl rfl) ?_
 refine am 8 ?_
 refine an ?_
 refine AGo.block ?_
 refine AGo.loopD (γ := Nat) 1 (fun k => ⟨19, (eput (eput (eput (eput eNew 0 (digsAV l)) 3 (.ptr 0 1 0 0)) 7 (.int .i64 ((l.map W4.cells).length : Int))) 8 (.int .i64 (k : Int))), (hput (hFrom 1) 0 (.row false 4 [d.cells]))⟩) (fun k => ∀ j, j < k → ∀ y, l[j]? = some y → y ≠ d) (fun k => l.length - k) 0 (Sub.mk' z7q z0q) (fun j h => absurd h (Nat.not_lt_zero j)) (fun _ => hput_free (fun b hb => hFrom_free hb) rfl) ?_
 intro k hF
 refine asr ?_
 refine aqb ?_
 refine an ?_
 refine AGo.seq ?_
 refine AGo.split 9 rfl (fun hb1 => ?_) (fun hb1 => ?_)
 ·
  refine act ?_
  have hkl : k < l.length := by have h := hb1; simp at h; omega
  obtain ⟨x, hx⟩ := get_of_lt hkl
  refine AGo.skip ?_
  refine AGo.seq ?_
  refine AGo.block ?_
  refine asr ?_
  refine am 10 ?_
  refine aa 5 ?_
  refine an ?_
  refine AGo.seq ?_
  refine AGo.draw mix ?_
  refine dl 11 tok ?_
  refine dm 12 ?_
  refine dm 13 ?_
  refine dq 14 (q_index_lst tok rfl rfl rfl rfl rfl rfl (Int.natCast_nonneg _) (w4_at hx) rfl) ?_
  refine dl 15 tok ?_
  refine dq 16 (q_eqDig tok (d) (x) (r := decide (d = x)) rfl rfl rfl (by kernel_rfl) rfl rfl rfl rfl rfl (by kernel_rfl) rfl) ?_
  refine DOps.nil (by kernel_rfl) ?_
  refine AGo.split 16 rfl (fun hb2 => ?_) (fun hb2 => ?_)
  ·
   refine act ?_
   have hd : d = x := by simpa using hb2
   refine asr ?_
   refine am 17 ?_
   refine aa 4 ?_
   refine an ?_
   refine AGo.ret ?_
   refine ⟨[_], ⟨rfl, trivial⟩, ?_, rfl⟩
   rw [findI_at hx hd.symm hF]; rfl
  ·
   refine acf ?_
   have hd : d ≠ x := by simpa using hb2
   refine AGo.skip ?_
   refine AGo.region ?_
   refine aq 18 (q_inc rfl rfl hkl (by simp only [maxLen]; omega)) ?_
   refine am 8 ?_
   refine an ?_
   exact ⟨k+1, Drop.mk' z4q z2q, (fun j hj y hy => by
     rcases Nat.lt_or_ge j k with h | h
     · exact hF j h y hy
     · have : j = k := by omega
       subst this
       rw [hx] at hy; cases hy; exact fun e => hd e.symm), by omega⟩
 ·
  refine acf ?_
  have hge : l.length ≤ k := by have h := hb1; simp at h; omega
  refine AGo.exit ?_
  refine asr ?_
  refine aa 4 ?_
  refine an ?_
  refine AGo.ret ?_
  refine ⟨[_], ⟨rfl, trivial⟩, ?_, rfl⟩
  rw [findI_no (fun j y hy => hF j (by have := (List.getElem?_eq_some_iff.1 hy).1; omega) y hy)]; rfl
set_option maxRecDepth 100000 in
theorem mprove_ok (l : List W4) (i : Nat) (hl : l.length ≤ 1000) (hi : i < l.length) : APure Tryd.prog 19 [(digsAV l), .int .i64 (i : Int)] (fun r => r = .tup [(digsAV (way l i)), .int .i64 0]) := by
 refine APure.of_body (n := 17) tok Tryd.func19 rfl rfl ?_
 refine asr ?_
 refine aa 4 ?_
 refine aa 5 ?_
 refine an ?_
 refine AGo.seq ?_
 refine asr ?_
 refine am 6 ?_
 refine aq 7 (q_bin (r := .bool false) rfl rfl rfl z5q) ?_
 refine am 8 ?_
 refine am 9 ?_
 refine am 10 ?_
 refine aq 11 (q_len tok rfl rfl rfl rfl rfl) ?_
 refine aq 12 (q_bin (r := .bool false) rfl rfl rfl z5q) ?_
 refine apf ?_
 refine an ?_
 refine acf ?_
 refine AGo.skip ?_
 refine asr ?_
 refine am 14 ?_
 refine am 15 ?_
 refine ax 16 (o_callRow 2 rfl Tryd.func26 (by kernel_rfl) rfl rfl rfl rfl (slO_avoid _ _) (slA_avoid _ (mem_one 2)) (way_ok _ l i (Nat.le_refl _) (by omega) (by omega) hi)) ?_
 refine aa 4 ?_
 refine aa 5 ?_
 refine an ?_
 refine AGo.ghost (Ghost.endJ (f := _) 4 2 rfl rfl) ?_
 refine AGo.ret ?_
 refine ⟨[_, _], ⟨rfl, rfl, trivial⟩, ?_, rfl⟩
 rfl
set_option maxRecDepth 100000 in
theorem sprove_ok (l : List ByteArray) (d : W4) (hl : l.length ≤ 1000) (hs : ∀ z ∈ l, z.size ≤ 1000) : APure Tryd.prog 8 [storeAV l, .agg d.cells] (fun r => r = proveS l d) := by
 refine APure.of_body (n := 29) tok Tryd.func8 rfl rfl ?_
 refine asr ?_
 refine ax 2 (o_box (sz := 1) 0 rfl rfl rfl rfl (Nat.zero_lt_succ _) rfl) ?_
 refine ax 3 (o_box (sz := 4) 1 rfl rfl rfl rfl (Nat.zero_lt_succ _) rfl) ?_
 refine aa 4 ?_
 refine aa 5 ?_
 refine aa 6 ?_
 refine an ?_
 refine asr ?_
 refine al 11 tok ?_
 refine ax 12 (o_pure rfl Tryd.func17 (by kernel_rfl) rfl rfl rfl (digests_ok l hl hs)) ?_
 refine aa 7 ?_
 refine an ?_
 refine asr ?_
 refine am 13 ?_
 refine al 14 tok ?_
 refine ax 15 (o_pure rfl Tryd.func18 (by kernel_rfl) rfl rfl rfl (index_ok (digsL l) d (by rw [digsL_len]; exact hl))) ?_
 refine aa 8 ?_
 refine an ?_
 refine AGo.seq ?_
 refine asr ?_
 refine am 16 ?_
 refine aqb ?_
 refine an ?_
 refine AGo.split 17 rfl (fun hb1 => ?_) (fun hb1 => ?_)
 ·
  refine act ?_
  have hn : ¬ 0 ≤ findI (digsL l) d := by have h := hb1; simp at h; omega
  refine asr ?_
  refine aa 4 ?_
  refine aa 5 ?_
  refine aa 6 ?_
  refine an ?_
  refine AGo.ret ?_
  refine ⟨[_, _, _], ⟨rfl, rfl, rfl, trivial⟩, ?_, rfl⟩
  unfold proveS pI pP pE; rw [if_neg hn, if_neg hn, if_neg hn]; rfl
 ·
  refine acf ?_
  have hn : 0 ≤ findI (digsL l) d := by have h := hb1; simp at h; omega
  obtain ⟨k, z, hk, hz, hzd, hkd, hkl⟩ := find_in hn
  refine AGo.skip ?_
  refine AGo.seq ?_
  rw [hk]
  refine AGo.region ?_
  refine am 19 ?_
  refine am 20 ?_
  refine ax 21 (o_pure rfl Tryd.func19 (by kernel_rfl) rfl rfl rfl ((mprove_ok (digsL l) k (by rw [digsL_len]; exact hl) (by rw [digsL_len]; exact hkl)))) ?_
  refine am 18 ?_
  refine aq 22 (q_extract rfl rfl rfl) ?_
  refine aq 23 (q_extract rfl rfl rfl) ?_
  refine aa 9 ?_
  refine aa 10 ?_
  refine an ?_
  refine AGo.seq ?_
  refine asr ?_
  refine am 24 ?_
  refine aq 25 (q_bin (r := .bool false) rfl rfl rfl (by rfl)) ?_
  refine an ?_
  refine acf ?_
  refine AGo.skip ?_
  refine asr ?_
  refine am 27 ?_
  refine am 28 ?_
  refine aa 4 ?_
  refine aa 5 ?_
  refine aa 6 ?_
  refine an ?_
  refine AGo.ret ?_
  refine ⟨[_, _, _], ⟨rfl, rfl, rfl, trivial⟩, ?_, rfl⟩
  unfold proveS pI pP pE; rw [if_pos hn, if_pos hn, if_pos hn, hk]; rfl
set_option maxRecDepth 100000 in
theorem sroot_ok (l : List ByteArray) (hl : l.length ≤ 1000) (hs : ∀ z ∈ l, z.size ≤ 1000) : APure Tryd.prog 20 [storeAV l] (fun r => r = .agg (root (digsL l)).cells) := by
 refine APure.of_body (n := 6) tok Tryd.func20 rfl rfl ?_
 refine asr ?_
 refine ax 1 (o_box (sz := 1) 0 rfl rfl rfl rfl (Nat.zero_lt_succ _) rfl) ?_
 refine ax 2 (o_alloc tok 1 rfl rfl rfl rfl (Nat.zero_lt_succ _) rfl) ?_
 refine an ?_
 refine asr ?_
 refine al 3 tok ?_
 refine ax 4 (o_pure rfl Tryd.func17 (by kernel_rfl) rfl rfl rfl (digests_ok l hl hs)) ?_
 refine ax 5 (o_pure rfl Tryd.func27 (by kernel_rfl) rfl rfl rfl (root_ok _ (digsL l) (Nat.le_refl _) (by rw [digsL_len]; omega))) ?_
 refine AOps.w rfl rfl (o_store tok rfl rfl rfl rfl rfl rfl rfl rfl rfl (by decide) rfl z8q) ?_
 refine an ?_
 refine AGo.ret ?_
 refine ⟨[_], ⟨⟨_, _, _, _, rfl, rfl, .ptr _ _ _ _ _ _ _ _ rfl rfl rfl, rfl⟩, trivial⟩, ?_, rfl⟩
 rfl
set_option maxRecDepth 100000 in
theorem head_ok (l : List ByteArray) (hl : l.length ≤ 1000) (hs : ∀ z ∈ l, z.size ≤ 1000) : APure Tryd.prog 9 [storeAV l] (fun r => r = .agg (headC l)) := by
 refine APure.of_body (n := 9) tok Tryd.func9 rfl rfl ?_
 refine asr ?_
 refine ax 1 (o_box (sz := 1) 0 rfl rfl rfl rfl (Nat.zero_lt_succ _) rfl) ?_
 refine ax 2 (o_alloc tok 1 rfl rfl rfl rfl (Nat.zero_lt_succ _) rfl) ?_
 refine an ?_
 refine AGo.seq ?_
 refine AGo.draw mix ?_
 refine df 3 tok ?_
 refine dl 4 tok ?_
 refine dq 5 (q_len tok rfl rfl rfl rfl rfl) ?_
 refine dl 6 tok ?_
 refine dx 7 (o_pure rfl Tryd.func20 (by kernel_rfl) rfl rfl rfl (sroot_ok l hl hs)) ?_
 refine dq 8 (q_build tok rfl rfl rfl rfl rfl (by decide) rfl rfl rfl) ?_
 refine DOps.w rfl rfl (o_store tok rfl rfl rfl rfl rfl rfl rfl rfl rfl (by decide) rfl z8q) ?_
 refine DOps.nil (by kernel_rfl) ?_
 refine AGo.ret ?_
 refine ⟨[_], ⟨⟨_, _, _, _, rfl, rfl, .ptr _ _ _ _ _ _ _ _ rfl rfl rfl, rfl⟩, trivial⟩, ?_, rfl⟩
 show AV.agg _ = AV.agg _
 rw [show headC l = .int .i64 ((l.map fun s => [AV.str s]).length : Int) :: (root (digsL l)).cells from by unfold headC; rw [List.length_map]]
 rfl
set_option maxRecDepth 100000 in
theorem get_ok (l : List ByteArray) (d : W4) (hl : l.length ≤ 1000) (hs : ∀ z ∈ l, z.size ≤ 1000) : APure Tryd.prog 7 [storeAV l, .agg d.cells] (fun r => r = .tup [.str (getS l d).1, .int .i64 (getS l d).2]) := by
 refine APure.of_body (n := 17) tok Tryd.func7 rfl rfl ?_
 refine asr ?_
 refine ax 2 (o_box (sz := 1) 0 rfl rfl rfl rfl (Nat.zero_lt_succ _) rfl) ?_
 refine ax 3 (o_box (sz := 4) 1 rfl rfl rfl rfl (Nat.zero_lt_succ _) rfl) ?_
 refine aa 4 ?_
 refine aa 5 ?_
 refine an ?_
 refine asr ?_
 refine al 7 tok ?_
 refine al 8 tok ?_
 refine ax 9 (o_pure rfl Tryd.func16 (by kernel_rfl) rfl rfl rfl (find_ok l d hl hs)) ?_
 refine aa 6 ?_
 refine an ?_
 refine AGo.seq ?_
 refine asr ?_
 refine am 10 ?_
 refine aqb ?_
 refine an ?_
 refine AGo.split 11 rfl (fun hb1 => ?_) (fun hb1 => ?_)
 ·
  refine act ?_
  have hn : ¬ 0 ≤ findI (digsL l) d := by have h := hb1; simp at h; omega
  refine asr ?_
  refine aa 4 ?_
  refine aa 5 ?_
  refine an ?_
  refine AGo.ret ?_
  refine ⟨[_, _], ⟨rfl, rfl, trivial⟩, ?_, rfl⟩
  unfold getS; rw [if_neg hn]; rfl
 ·
  refine acf ?_
  have hn : 0 ≤ findI (digsL l) d := by have h := hb1; simp at h; omega
  obtain ⟨k, z, hk, hz, hzd, hkd, hkl⟩ := find_in hn
  refine AGo.skip ?_
  refine AGo.seq ?_
  rw [hk]
  refine AGo.region ?_
  refine af 12 tok ?_
  refine al 13 tok ?_
  refine am 14 ?_
  refine aq 15 (q_index_lst tok rfl rfl rfl rfl rfl rfl (Int.natCast_nonneg _) (str_at hz) rfl) ?_
  refine al 16 tok ?_
  refine aa 4 ?_
  refine aa 5 ?_
  refine an ?_
  refine AGo.ret ?_
  refine ⟨[_, _], ⟨rfl, rfl, trivial⟩, ?_, rfl⟩
  unfold getS; rw [if_pos hn, hk, Int.toNat_natCast, hz]; rfl
set_option maxHeartbeats 4000000 in
set_option maxRecDepth 100000 in
theorem law_ok (l : List ByteArray) (a : ByteArray) (hl : l.length ≤ maxLen) : APure Tryd.prog 3 [strsAV l, .str a] (fun r => r = .bool true) := by
 refine APure.of_body (n := 115) tok Tryd.func3 rfl rfl ?_
 refine asr ?_
 refine aa 4 ?_
 refine an ?_
 refine AGo.seq ?_
 refine asr ?_
 refine am 15 ?_
 refine ax 16 (o_pure rfl Tryd.func4 (by kernel_rfl) rfl rfl rfl (texts_ok l hl)) ?_
 refine aq 17 (q_not rfl rfl) ?_
 refine am 18 ?_
 refine AOps.split 18 rfl (fun hb1 => ?_) (fun hb1 => ?_)
 ·
  iterate 3 refine ak _ ?_
  refine apt ?_
  refine an ?_
  refine act ?_
  refine asr ?_
  refine aa 4 ?_
  refine an ?_
  refine AGo.ret ?_
  refine ⟨[_], ⟨rfl, trivial⟩, ?_, rfl⟩
  rfl
 ·
  refine am 19 ?_
  refine aq 20 (q_len tok rfl rfl rfl rfl rfl) ?_
  refine aqb ?_
  refine apf ?_
  refine an ?_
  refine AGo.split 22 rfl (fun hb2 => ?_) (fun hb2 => ?_)
  ·
   refine act ?_
   refine asr ?_
   refine aa 4 ?_
   refine an ?_
   refine AGo.ret ?_
   refine ⟨[_], ⟨rfl, trivial⟩, ?_, rfl⟩
   rfl
  ·
   refine acf ?_
   have hT := texts_true (by simpa using hb1)
   have ha : a.size ≤ 300 := by have h := hb2; simp at h; omega
   have hst := fill_stored l [] 0 ⟨Nat.le_refl _, fun z h => by cases h⟩ hT.2
   have hsl : (fillS [] l).1.length ≤ 1000 := by have := hst.len; omega
   have hss : ∀ z ∈ (fillS [] l).1, z.size ≤ 1000 := fun z hz => by have := hst.each z hz; omega
   refine AGo.skip ?_
   refine asr ?_
   refine am 24 ?_
   refine ax 25 (o_pure rfl Tryd.func5 (by kernel_rfl) rfl rfl rfl (filled_ok l hT.1 hT.2)) ?_
   refine am 23 ?_
   refine aq 26 (q_extract rfl rfl rfl) ?_
   refine aq 27 (q_extract rfl rfl rfl) ?_
   refine ax 5 (o_alloc tok 0 rfl rfl rfl rfl (Nat.zero_lt_succ _) rfl) ?_
   refine AOps.w rfl rfl (o_store tok rfl rfl rfl rfl rfl rfl rfl rfl rfl (by decide) rfl z8q) ?_
   refine aa 6 ?_
   refine an ?_
   refine AGo.seq ?_
   refine asr ?_
   refine am 28 ?_
   refine aq 29 (q_not rfl rfl) ?_
   refine an ?_
   refine AGo.split 29 rfl (fun hb3 => ?_) (fun hb3 => ?_)
   ·
    refine act ?_
    refine asr ?_
    refine aa 4 ?_
    refine an ?_
    refine AGo.ret ?_
    refine ⟨[_], ⟨rfl, trivial⟩, ?_, rfl⟩
    rfl
   ·
    refine acf ?_
    refine AGo.skip ?_
    refine asr ?_
    refine am 30 ?_
    refine ax 31 (o_pure rfl Tryd.func6 (by kernel_rfl) rfl rfl rfl (digOf_ok a (by omega))) ?_
    refine ax 7 (o_alloc tok 1 rfl rfl rfl rfl (Nat.zero_lt_succ _) rfl) ?_
    refine AOps.w rfl rfl (o_store tok rfl rfl rfl rfl rfl rfl rfl rfl rfl (by decide) rfl z8q) ?_
    refine an ?_
    refine asr ?_
    refine al 33 tok ?_
    refine al 34 tok ?_
    refine ax 35 (o_pure rfl Tryd.func7 (by kernel_rfl) rfl rfl rfl (get_ok (fillS [] l).1 (digW a) hsl hss)) ?_
    refine am 32 ?_
    refine aq 36 (q_extract rfl rfl rfl) ?_
    refine aq 37 (q_extract rfl rfl rfl) ?_
    refine aa 8 ?_
    refine aa 9 ?_
    refine an ?_
    refine asr ?_
    refine al 39 tok ?_
    refine al 40 tok ?_
    refine ax 41 (o_pure rfl Tryd.func8 (by kernel_rfl) rfl rfl rfl (sprove_ok (fillS [] l).1 (digW a) hsl hss)) ?_
    refine am 38 ?_
    refine aq 42 (q_extract rfl rfl rfl) ?_
    refine aq 43 (q_extract rfl rfl rfl) ?_
    refine aq 44 (q_extract rfl rfl rfl) ?_
    refine aa 10 ?_
    refine aa 11 ?_
    refine aa 12 ?_
    refine an ?_
    refine asr ?_
    refine al 45 tok ?_
    refine ax 46 (o_pure rfl Tryd.func9 (by kernel_rfl) rfl rfl rfl (head_ok (fillS [] l).1 hsl hss)) ?_
    refine ax 13 (o_alloc tok 2 rfl rfl rfl rfl (Nat.zero_lt_succ _) rfl) ?_
    refine AOps.w rfl rfl (o_store tok rfl rfl rfl rfl rfl rfl rfl rfl rfl (by decide) rfl z8q) ?_
    refine an ?_
    refine AGo.seq ?_
    refine asr ?_
    refine am 47 ?_
    refine aqb ?_
    refine an ?_
    refine AGo.split 48 rfl (fun hb4 => ?_) (fun hb4 => ?_)
    ·
     refine act ?_
     have hn : ¬ 0 ≤ findI (digsL (fillS [] l).1) (digW a) := by
       intro h0
       have h := hb4
       simp [getS, h0] at h
     refine AGo.seq ?_
     refine asr ?_
     refine aa 14 ?_
     refine an ?_
     refine AGo.block ?_
     refine AGo.loopD (γ := Nat) 3 (fun k => ⟨115, (eput (eput (eput (eput (eput eNew 1 (.str a)) 5 (.ptr 0 1 0 0)) 9 (.int .i64 (getS (fillS [] l).1 (digW a)).2)) 12 (.int .i64 (pE (fillS [] l).1 (digW a)))) 14 (.int .i64 (k : Int))), (hput (hFrom 3) 0 (.row false 1 [[strsAV (fillS [] l).1]]))⟩) (fun k => True) (fun k => (fillS [] l).1.length - k) 0 (Sub.mk' z7q z0q) trivial (fun _ => hput_free (fun b hb => hFrom_free hb) rfl) ?_
     intro k _
     refine AGo.seq ?_
     refine asr ?_
     refine am 49 ?_
     refine af 50 tok ?_
     refine al 51 tok ?_
     refine aq 52 (q_len tok rfl rfl rfl rfl rfl) ?_
     refine aqb ?_
     refine an ?_
     refine AGo.split 53 rfl (fun hb5 => ?_) (fun hb5 => ?_)
     ·
      refine act ?_
      have hkl : k < (fillS [] l).1.length := by have h := hb5; simp at h; omega
      obtain ⟨z, hz⟩ := get_of_lt hkl
      refine AGo.skip ?_
      refine AGo.seq ?_
      refine AGo.block ?_
      refine asr ?_
      refine af 56 tok ?_
      refine al 57 tok ?_
      refine am 58 ?_
      refine aq 59 (q_index_lst tok rfl rfl rfl rfl rfl rfl (Int.natCast_nonneg _) (str_at hz) rfl) ?_
      refine al 60 tok ?_
      refine am 61 ?_
      refine aqb ?_
      refine an ?_
      refine AGo.split 62 rfl (fun hb6 => ?_) (fun hb6 => ?_)
      ·
       refine act ?_
       have hza := str_eqT hb6
       refine asr ?_
       refine aa 4 ?_
       refine an ?_
       refine AGo.ret ?_
       exact absurd (congrArg digW hza) (find_none hn hz)
      ·
       refine acf ?_
       refine AGo.skip ?_
       refine AGo.region ?_
       refine am 54 ?_
       refine aq 55 (q_inc rfl rfl hkl (by simp only [maxLen]; omega)) ?_
       refine aa 14 ?_
       refine an ?_
       exact ⟨k+1, Drop.mk' z4q z2q, trivial, by omega⟩
     ·
      refine acf ?_
      refine AGo.exit ?_
      refine asr ?_
      refine am 63 ?_
      refine aq 64 (q_bin (r := .bool true) rfl rfl rfl (by rw [get_no hn]; rfl)) ?_
      refine am 65 ?_
      refine am 66 ?_
      refine aq 67 (q_bin (r := .bool true) rfl rfl rfl (by rw [pE_no hn]; rfl)) ?_
      refine apt ?_
      refine aa 4 ?_
      refine an ?_
      refine AGo.ret ?_
      refine ⟨[_], ⟨rfl, trivial⟩, ?_, rfl⟩
      rfl
    ·
     refine acf ?_
     have hn : 0 ≤ findI (digsL (fillS [] l).1) (digW a) := by
       apply Classical.byContradiction
       intro h0
       have h := hb4
       rw [get_no h0] at h
       simp at h
     obtain ⟨k, z, hk, hz, hzd, hkd, hkl⟩ := find_in hn
     have hck := mcheck_ok (digsL (fillS [] l).1) k (digW a) hkd (by rw [digsL_len]; exact hsl)
     rw [digsL_len] at hck
     rw [get_yes hn hk hz, pI_yes hn hk, pP_yes hn hk, pE_yes hn]
     refine AGo.skip ?_
     refine AGo.seq ?_
     refine AGo.draw mix ?_
     refine dm 69 ?_
     refine dq 70 (q_bin (r := .bool true) rfl rfl rfl (by rfl)) ?_
     refine dm 71 ?_
     refine dm 72 ?_
     refine dx 73 (o_pure rfl Tryd.func6 (by kernel_rfl) rfl rfl rfl (digOf_ok z (by have := hss z (List.mem_of_getElem? hz); omega))) ?_
     refine dl 74 tok ?_
     refine dq 75 (q_eqDig tok (digW z) (digW a) (r := true) rfl rfl rfl (by kernel_rfl) rfl rfl rfl rfl rfl (by kernel_rfl) (by simp [hzd])) ?_
     refine dq 76 (q_pick_true true rfl rfl rfl rfl) ?_
     refine dm 77 ?_
     refine dm 78 ?_
     refine dq 79 (q_bin (r := .bool true) rfl rfl rfl (by simp only [evalBin, evalInt, isShift, cond_false, if_true]; (try simp only [List.length_map]); rw [decide_eq_true (by omega)])) ?_
     refine dq 80 (q_pick_true true rfl rfl rfl rfl) ?_
     refine dm 81 ?_
     refine dm 82 ?_
     refine df 83 tok ?_
     refine dl 84 tok ?_
     refine dq 85 (q_len tok rfl rfl rfl rfl rfl) ?_
     refine dq 86 (q_bin (r := .bool true) rfl rfl rfl (by simp only [evalBin, evalInt, isShift, cond_false, if_true]; (try simp only [List.length_map]); rw [decide_eq_true (by omega)])) ?_
     refine dq 87 (q_pick_true true rfl rfl rfl rfl) ?_
     refine dm 88 ?_
     refine df 89 tok ?_
     refine dl 90 tok ?_
     refine dm 91 ?_
     refine dq 92 (q_index_lst tok rfl rfl rfl rfl rfl rfl (Int.natCast_nonneg _) (str_at hz) rfl) ?_
     refine dl 93 tok ?_
     refine dm 94 ?_
     refine dq 95 (q_bin (r := .bool true) rfl rfl rfl (by simp [evalBin])) ?_
     refine dq 96 (q_pick_true true rfl rfl rfl rfl) ?_
     refine dm 97 ?_
     refine df 98 tok ?_
     refine dl 99 tok ?_
     refine df 100 tok ?_
     refine dl 101 tok ?_
     refine dm 102 ?_
     refine dl 103 tok ?_
     refine dm 104 ?_
     refine dx 105 (o_pure rfl Tryd.func10 (by kernel_rfl) rfl rfl rfl (hck)) ?_
     refine dq 106 (q_pick_true true rfl rfl rfl rfl) ?_
     refine dm 107 ?_
     refine df 108 tok ?_
     refine dl 109 tok ?_
     refine df 110 tok ?_
     refine dl 111 tok ?_
     refine dq 112 (q_len tok rfl rfl rfl rfl rfl) ?_
     refine dq 113 (q_bin (r := .bool true) rfl rfl rfl (by simp only [evalBin, evalInt, isShift, cond_false, if_true]; rw [List.length_map]; simp)) ?_
     refine dq 114 (q_pick_true true rfl rfl rfl rfl) ?_
     refine da 4 ?_
     refine DOps.nil (by kernel_rfl) ?_
     refine AGo.ret ?_
     refine ⟨[_], ⟨rfl, trivial⟩, ?_, rfl⟩
     rfl
end Go.Proofs.YtcggeonbbpfmdaaDoor.Sv

namespace Go.Proofs.YtcggeonbbpfmdaaDoor
open Go.ChangeShapes Go.WideShapes Go.ChangeAt Go.RowKit Sv
set_option linter.unusedVariables false
theorem own' : ownKnob Tryd.prog.godebug = none := by kernel_rfl
theorem laidOut' : laidOutB Tryd.prog = true := by kernel_rfl
theorem bool' : Tryd.prog.underlying 4 = some .bool := by kernel_rfl
theorem okWide_cellS {P : Program} {W : World} {T : Nat → Option TyI} {t b0 : Nat} {v : Value} {i : TyI} (hT : TOk P T) (hi : T t = some i) (hk : i.k = .string) (h : Value.okWide P W .any b0 t v) : ∀ cs, v ≠ .agg cs := by
  obtain ⟨info, d, e1, e2, e3, e4, e5, e6⟩ := tyOf_spec (hT _ _ hi)
  have hd := tk_string (P := P) (d := d) (e3 ▸ hk)
  subst hd
  obtain ⟨s, rfl⟩ := okWide_string e2 h
  intro cs h
  cases h
section
variable {H : Type} {enc : TypeId × Value → H} {W : World}
theorem okWide_cellL {P : Program} {W : World} {T : Nat → Option TyI} {t u b0 : Nat} {v : Value} {i : TyI} (hT : TOk P T) (hi : T t = some i) (hk : i.k = .slice u) (h : Value.okWide P W .any b0 t v) : ∀ cs, v ≠ .agg cs := by
  obtain ⟨info, d, e1, e2, e3, e4, e5, e6⟩ := tyOf_spec (hT _ _ hi)
  have hd := tk_slice (P := P) (d := d) (e3 ▸ hk)
  subst hd
  obtain ⟨a, len, cap, rfl⟩ := okWide_slice e2 h
  intro cs h
  cases h
theorem decStr : Dec enc Tryd.prog W 9 (fun s : ByteArray => [.str s]) (fun s => s.size ≤ maxLen ∧ s.size ≤ reachBytes) := Dec.string' tok rfl rfl
theorem decStrs : Dec enc Tryd.prog W 22 (fun l : List ByteArray => [strsAV l]) (fun l => l.length * 16 ≤ reachBytes ∧ ∀ s ∈ l, s.size ≤ maxLen ∧ s.size ≤ reachBytes) := Dec.slice' (j := ty9) tok rfl rfl rfl (Nat.zero_lt_succ _) decStr
end
theorem len16 {n : Nat} (h : n * 16 ≤ reachBytes) : n ≤ maxLen := by
  have h2 : reachBytes ≤ maxLen := by decide
  omega
def placesTab : List Int := [7, 9, 13, 18]
theorem gPlaces : Tryd.prog.globalNamed "seedcorn/digest.places" = some 0 := by kernel_rfl
theorem glob_ok {W : World} (h : laidMetH Tryd.prog Rows.systemInRow.laid W) : GlobOk (heapKnow W) := by
  have h' : laidMet Tryd.prog [("seedcorn/digest.places", Lib.tabData .i64 placesTab)] W := by
    rw [MakeChecks.laidMetH_plain _ _ _ (by kernel_rfl)] at h
    exact h
  have t2 : Lib.TabIs Tryd.prog W "seedcorn/digest.places" .i64 placesTab := Lib.tabIs_of_head (t := 74) (e := 3) (n := 4) gPlaces (by kernel_rfl) (by kernel_rfl) (by kernel_rfl) (by kernel_rfl) (by kernel_rfl) h'
  intro g l e
  match g, e with
  | 0, e =>
    obtain rfl : placesTab.map (fun z => (IntKind.i64, z)) = l := Option.some.inj e
    exact rel_tab t2 gPlaces (by decide)
def tabLaid (cs : Array Value) : Obj → Obj
  | .cells _ t frozen => .cells cs t frozen
  | o => o
noncomputable def laidWorld (os : Os) : World :=
  { World.holding Tryd.prog os ⟨#[], #[], []⟩ with heap := (World.holding Tryd.prog os ⟨#[], #[], []⟩).heap.modify 0 (tabLaid #[.int .i64 7, .int .i64 9, .int .i64 13, .int .i64 18]) }
theorem laid_met (os : Os) : laidMet Tryd.prog Rows.systemInRow.laid ((laidWorld os).forCall (fun _ _ => 0) ⟨#[], #[.slice none 0 0, .string ⟨#[]⟩], []⟩).memory :=
  laidMet_of_run' 8 (by kernel_rfl) (by kernel_rfl)
theorem reads (os : Os) {H : Type} (enc : TypeId × Value → H) : ∃ places, DataW.whole enc Tryd.prog ((laidWorld os).forCall (fun _ _ => 0) ⟨#[], #[.slice none 0 0, .string ⟨#[]⟩], []⟩).memory Tryd.f3.params.toList Rows.systemInSpec.vars false #[Value.slice none 0 0, .string ⟨#[]⟩].toList 8 = some ([.nil, .lit (.string [])], [], places) :=
  ⟨[], by kernel_rfl⟩
set_option maxRecDepth 100000 in
theorem lifted (os : Os) (started : os.Started) (H : Type) (enc : TypeId × Value → H) (F : Stop.Interp) :
    ReturnsInHanded {} Tryd.checked os 3 .any ((OpenSpec.ofChange Rows.systemInSpec).preRow enc Tryd.prog Tryd.f3 Rows.systemInRow.domain false Rows.systemInRow.laid) (((OpenSpec.ofChange Rows.systemInSpec).at F).post enc Tryd.prog Tryd.f3 false true false false) := by
  obtain ⟨places, hx⟩ := reads os enc
  refine returnsInHanded_of_row (C := Tryd.checked) (s := OpenSpec.ofChange Rows.systemInSpec) own' started (by kernel_rfl) Tryd.func3
    (witness_row_at (enc := enc) (C := Tryd.checked) false (laidWorld os) #[.slice none 0 0, .string ⟨#[]⟩] rfl (by kernel_rfl) (by kernel_rfl) (by kernel_rfl)
      (OpenSpec.preRow_of_cond 8 hx (by kernel_rfl) (fun k hk => by cases hk) (by kernel_rfl) (laid_met os))) ?_
  intro W base args ds gs before hval0 hW _ _ hwt0 hL _ _
  have hval : ∀ (j : Nat) t v, Tryd.f3.params[j]? = some t → args[j]? = some v → Value.okWide Tryd.prog W .any base t v := hval0
  have hW' := hW
  obtain ⟨p, q, hA0, hV, rfl, hfz, hnd⟩ := hW
  have hA : DataW.TrodAll enc Tryd.prog W 0 (fun _ => true) true Tryd.f3.params.toList args.toList ds p := hA0
  have hwt : (DataW.weightsEach Tryd.prog (Tryd.f3.params.toList ++ Rows.systemInSpec.plain.varTypes Tryd.prog) (ds ++ gs)).all (· ≤ reachBytes) = true := hwt0
  rw [Tryd.params3] at hA hval hwt
  obtain ⟨v0, vs0, d0, ds0, p0, q0, hargs, rfl, rfl, h0, r0⟩ := trodAll_cons hA
  obtain ⟨v1, vs1, d1, ds1, p1, q1, rfl, rfl, rfl, h1, r1⟩ := trodAll_cons r0
  obtain ⟨rfl, rfl, rfl⟩ := trodAll_nil r1
  obtain rfl : args = #[v0, v1] := by cases args; simp_all
  obtain ⟨rfl, rfl⟩ := trodVars_none hV
  obtain ⟨x0, e0, g0⟩ := arg_one h0 (weightsEach_get hwt (i := 0) rfl rfl) decStrs
  obtain ⟨x1, e1, g1⟩ := arg_one h1 (weightsEach_get hwt (i := 1) rfl rfl) decStr
  exact law_calls laidOut' rfl (by kernel_rfl) rfl bool' rfl rfl rfl hW' (.cons (e0.val1 (okWide_cellL tok rfl rfl (hval 0 22 v0 rfl rfl))) (.cons (e1.val1 (okWide_cellS tok rfl rfl (hval 1 9 v1 rfl rfl))) .nil)) (law_ok x0 x1 (len16 g0.1)) (glob_ok hL)
theorem said : Rows.SystemInSaid :=
  OpenClaim.holds_of_cond 3 Tryd.f3 rfl rfl rfl rfl rfl rfl rfl ⟨rfl, rfl, rfl, rfl, rfl⟩ rfl rfl rfl rfl rfl (by kernel_rfl) Tryd.func3 (by kernel_rfl)
    (of_decide_eq_true (by kernel_rfl)) (by unfold Func.isWrapper; first | (rw [if_pos (by decide +kernel)]; kernel_rfl) | (rw [if_neg (by decide +kernel)]; exact ⟨rfl, rfl⟩))
    (fun os started H enc _ F => by rw [OpenClaim.pre_eq_preRow]; exact lifted os started H enc F)
theorem plain (f : FuncId) (fn : Func) (hf : Tryd.pinned.checked.prog.funcNamed "seedcorn/seedcorntop.SystemIn" = some f) (hfn : Tryd.pinned.checked.prog.funcs[f]? = some fn) :
    false = Tryd.pinned.checked.prog.looks [] ∧ ∀ (j : Nat) t, fn.params[j]? = some t → Tryd.pinned.checked.prog.wantsStandIn t = false := by
  obtain rfl : f = 3 := Option.some.inj ((show Tryd.prog.funcNamed "seedcorn/seedcorntop.SystemIn" = some 3 by kernel_rfl).symm.trans hf) |>.symm
  obtain rfl : fn = Tryd.f3 := (Option.some.inj (Tryd.func3.symm.trans hfn)).symm
  refine ⟨by kernel_rfl, fun j t ht => ?_⟩
  rw [Tryd.params3] at ht
  have h : t = 22 ∨ t = 9 := by simpa using Array.mem_of_getElem? ht
  rcases h with rfl | rfl
  · exact (show Tryd.prog.wantsStandIn 22 = false by kernel_rfl)
  · exact (show Tryd.prog.wantsStandIn 9 = false by kernel_rfl)
theorem systemIn_card : Rows.SystemInCardSaid :=
  Claim7.holds_tied_plain_at .later [] _ _ _ _ said (fun _ h => by cases h) (by kernel_rfl) (fun _ h => by cases h) systemIn_row_tie rfl ⟨rfl, rfl⟩ (by kernel_rfl) rfl plain (by kernel_rfl)
end Go.Proofs.YtcggeonbbpfmdaaDoor
