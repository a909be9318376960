/-
  The law BuildEnds of the given program answers true for every input, and leaves its arguments as they were. There is no condition. Own work.
  WALKS: printed by a program of our own from the code's tree.
-/
import Derived.Test.YtmfihmkopmgelaaPBuildEnds4
import Derived.Test.YtmfihmkopmgelaaPBuildEnds5
import Derived.Test.YtmfihmkopmgelaaPBuildEnds2
import Derived.Test.YtmfihmkopmgelaaPBuildEnds3
namespace Go.Proofs.Ytmfihmkopmgelaa.Sv
open Go
set_option maxRecDepth 100000 in
theorem flag19_ok (b : Bool) : APure Try.prog 94 [.bool b] (fun r => r = .int .u32 (zf b)) := by
 refine APure.of_body (n := 4) tok Try.func94 rfl rfl ?_
 refine asr ?_
 refine aa 2 ?_
 refine an ?_
 refine AGo.seq ?_
 refine asr ?_
 refine am 3 ?_
 refine an ?_
 refine AGo.split 3 rfl (fun hb1 => ?_) (fun hb1 => ?_)
 ·
  refine act ?_
  refine asr ?_
  refine aa 2 ?_
  refine an ?_
  refine AGo.ret ?_
  refine ⟨[_], ⟨rfl, trivial⟩, ?_, rfl⟩
  first | (rw [hb1]; rfl) | (simp_all [zf]; rfl)
 ·
  refine acf ?_
  refine AGo.skip ?_
  refine asr ?_
  refine aa 2 ?_
  refine an ?_
  refine AGo.ret ?_
  refine ⟨[_], ⟨rfl, trivial⟩, ?_, rfl⟩
  first | (rw [hb1]; rfl) | (simp_all [zf]; rfl)
set_option maxRecDepth 100000 in
theorem rtick_ok (C : Core) (s : ByteArray) (fuel : Int) (c : CM) (hfu : fuel ≤ 9223372036854775807) : ACall Try.prog 72 [.ptr 0 1 0 0] (cheap hNew C s fuel c) (fun r h' => r = .bool (tickC fuel c).1 ∧ HSub (cheap hNone C s fuel (tickC fuel c).2) h') := by
 refine ACall.of_body (n := 22) tok Try.func72 rfl rfl ?_
 refine asr ?_
 refine aa 2 ?_
 refine an ?_
 refine AGo.seq ?_
 refine AGo.seq ?_
 refine AGo.draw mix ?_
 refine dm 3 ?_
 refine dq 4 (q_nilCheck rfl rfl rfl) ?_
 refine df 5 tok ?_
 refine dl 6 tok ?_
 refine dm 7 ?_
 refine dq 8 (q_nilCheck rfl rfl rfl) ?_
 refine df 9 tok ?_
 refine dl 10 tok ?_
 refine dq 11 (q_bin rfl rfl rfl rfl) ?_
 refine DOps.nil (by kernel_rfl) ?_
 refine AGo.split 11 rfl (fun hb1 => ?_) (fun hb1 => ?_)
 ·
  refine act ?_
  refine asr ?_
  refine am 12 ?_
  refine aq 13 (q_nilCheck rfl rfl rfl) ?_
  refine af 14 tok ?_
  refine AOps.w rfl rfl (o_store tok rfl rfl rfl rfl rfl rfl rfl rfl rfl (by decide) rfl z40q) ?_
  refine an ?_
  refine asr ?_
  refine aa 2 ?_
  refine an ?_
  refine AGo.ret ?_
  have e1 : tickC fuel c = (false, c.put { c.m with fin := 5 }) := by unfold tickC; rw [mstep_no hb1]
  rw [e1]
  exact ⟨[_], ⟨rfl, trivial⟩, rfl, HSub.put (HSub.put (HSub.put (HSub.none _) rfl) rfl) rfl⟩
 ·
  refine acf ?_
  refine AGo.skip ?_
  refine asr ?_
  refine am 15 ?_
  refine aq 16 (q_nilCheck rfl rfl rfl) ?_
  refine af 17 tok ?_
  refine al 18 tok ?_
  refine aq 19 (q_inc rfl rfl (show c.m.steps < fuel.toNat by have h := hb1; simp at h; omega) (by simp only [maxLen]; omega)) ?_
  refine aq 20 (q_nilCheck rfl rfl rfl) ?_
  refine af 21 tok ?_
  refine AOps.w rfl rfl (o_store tok rfl rfl rfl rfl rfl rfl rfl rfl rfl (by decide) rfl z40q) ?_
  refine an ?_
  refine asr ?_
  refine aa 2 ?_
  refine an ?_
  refine AGo.ret ?_
  have e1 : tickC fuel c = (true, c.put { c.m with steps := c.m.steps + 1 }) := by unfold tickC; rw [mstep_yes hb1]
  rw [e1]
  exact ⟨[_], ⟨rfl, trivial⟩, rfl, HSub.put (HSub.put (HSub.put (HSub.none _) rfl) rfl) rfl⟩
set_option maxHeartbeats 1000000 in
set_option maxRecDepth 100000 in
theorem rexpr_step (C : Core) (s : ByteArray) (fuel : Int) (cl : CallC) (n : Nat) (e : CE) (c : CM) (hw0 : 0 ≤ C.words) (hw1 : C.words ≤ 1048576) (hs : s.size ≤ 9223372036854775807) (hok : e.ok C n) (hk : e.Ok) (hc : c.good C.words.toNat) (hg : CallGood C.words.toNat cl)
    (hE : ∀ x ∈ e.kids, ∀ c, CM.good C.words.toNat c → ACall Try.prog 73 [.ptr 0 1 0 0, .agg x.row] (cheap hNew C s fuel c) (fun r h' => r = .int .u32 (x.ev cl s c).1 ∧ HSub (cheap hNone C s fuel (x.ev cl s c).2) h')) (hcall : e.kind = 4 → ACall Try.prog 71 [.ptr 0 1 0 0, .int .i64 e.slot, (.lst false (e.kids.map CE.cells))] (cheap hNew C s fuel c) (fun r h' => r = .int .u32 (CE.evC cl s e.slot e.kids [] c).1 ∧ HSub (cheap hNone C s fuel (CE.evC cl s e.slot e.kids [] c).2) h')) : ACall Try.prog 73 [.ptr 0 1 0 0, .agg e.row] (cheap hNew C s fuel c) (fun r h' => r = .int .u32 (e.ev cl s c).1 ∧ HSub (cheap hNone C s fuel (e.ev cl s c).2) h') := by
 refine ACall.of_body (n := 164) tok Try.func73 rfl rfl ?_
 refine asr ?_
 refine ax 3 (o_box (sz := 6) 3 rfl rfl rfl rfl (Nat.zero_lt_succ _) rfl) ?_
 refine aa 4 ?_
 refine an ?_
 refine AGo.seq ?_
 refine asr ?_
 refine af 10 tok ?_
 refine al 11 tok ?_
 refine an ?_
 refine AGo.block ?_
 refine asr ?_
 refine aqb ?_
 refine aa 12 ?_
 refine an ?_
 refine AGo.split 12 rfl (fun hb1 => ?_) (fun hb1 => ?_)
 ·
  refine act ?_
  have ho : e.kind = 1 := by simpa using hb1
  refine asr ?_
  refine af 14 tok ?_
  refine al 15 tok ?_
  refine aa 4 ?_
  refine an ?_
  refine AGo.ret ?_
  rw [ev_k1 ho]
  exact ⟨[_], ⟨rfl, trivial⟩, rfl, HSub.put (HSub.put (HSub.put (HSub.none _) rfl) rfl) rfl⟩
 ·
  refine acf ?_
  have n1 : e.kind ≠ 1 := by simpa using hb1
  refine asr ?_
  refine aqb ?_
  refine aa 16 ?_
  refine an ?_
  refine AGo.split 16 rfl (fun hb2 => ?_) (fun hb2 => ?_)
  ·
   refine act ?_
   have ho : e.kind = 2 := by simpa using hb2
   have hb2 := eok_k2 hok ho
   refine AGo.seq ?_
   refine AGo.draw mix ?_
   refine dm 18 ?_
   refine dq 19 (q_nilCheck rfl rfl rfl) ?_
   refine df 20 tok ?_
   refine dl 21 tok ?_
   refine df 22 tok ?_
   refine dl 23 tok ?_
   refine dq 24 (q_index_ref tok rfl rfl rfl rfl rfl rfl rfl (by rw [regCells_len, hc.m.len]) rfl hb2.1 (by have := hb2.2; omega)) ?_
   refine dq 25 (q_load tok rfl rfl rfl (.ptr _ _ _ _ _ _ _ _ rfl (by rw [regCells_len, hc.m.len]) (rcell (by have := hb2; have := hc.m.len; omega))) rfl) ?_
   refine da 4 ?_
   refine DOps.nil (by kernel_rfl) ?_
   refine AGo.ret ?_
   rw [ev_k2 ho]
   exact ⟨[_], ⟨rfl, trivial⟩, rfl, HSub.put (HSub.put (HSub.put (HSub.none _) rfl) rfl) rfl⟩
  ·
   refine acf ?_
   have n2 : e.kind ≠ 2 := by simpa using hb2
   refine asr ?_
   refine aqb ?_
   refine aa 26 ?_
   refine an ?_
   refine AGo.split 26 rfl (fun hb3 => ?_) (fun hb3 => ?_)
   ·
    refine act ?_
    have ho : e.kind = 3 := by simpa using hb3
    have hb3 := eok_k3 hok ho
    obtain ⟨x, hx, hxm⟩ := get0 (l := e.kids) (by omega)
    have hgx : (x.ev cl s c).2.good C.words.toNat ∧ isW (x.ev cl s c).1 := ev_good (s := s) hg x.parts x (Nat.le_refl _) (hk.kidsOk.1 x hxm) c hc
    have hv1 := hgx.2.1
    have hv2 := hgx.2.2
    refine asr ?_;refine am 28 ?_;refine af 29 tok ?_;refine al 30 tok ?_;refine aq 31 (q_index_lst tok rfl rfl rfl rfl rfl rfl (by decide) (idxE0 hx) rfl) ?_;refine al 32 tok ?_;refine ax 33 (o_call (hc := (cheap hNew C s fuel c)) (hw := (cheap hNone C s fuel (x.ev cl s c).2)) [2, 1, 0] [(0, (.row false 11 [cCells C s fuel (x.ev cl s c).2])), (1, (.row true 1 (regCells ((x.ev cl s c).2).m.words))), (2, (.row true 1 (byteCells ((x.ev cl s c).2).m.out)))] rfl Try.func73 (by kernel_rfl) rfl rfl rfl ⟨⟨_, rfl, rfl⟩, ⟨_, rfl, rfl⟩, ⟨_, rfl, rfl⟩, trivial⟩ rfl (hres_cons rfl (hres_cons rfl (hres_cons rfl (hres_nil _)))) ⟨⟨_, rfl, rfl, rfl⟩, ⟨_, rfl, rfl, rfl⟩, ⟨_, rfl, rfl, rfl⟩, trivial⟩ rfl (hE x hxm c hc)) ?_;refine aa 5 ?_;refine an ?_;refine AGo.seq ?_;refine asr ?_;refine am 34 ?_;refine aq 35 (q_nilCheck rfl rfl rfl) ?_;refine af 36 tok ?_;refine al 37 tok ?_;refine aqb ?_;refine an ?_;refine AGo.split 38 rfl (fun hb4 => ?_) (fun hb4 => ?_)
    ·
     refine act ?_
     have hf := hb4
     refine asr ?_;refine aa 4 ?_;refine an ?_;refine AGo.ret ?_
     rw [ev_k3a ho hx hf]
     exact ⟨[_], ⟨rfl, trivial⟩, rfl, HSub.put (HSub.put (HSub.put (HSub.none _) rfl) rfl) rfl⟩
    ·
     refine acf ?_
     have hf := hb4
     refine AGo.skip ?_;refine AGo.seq ?_;refine asr ?_;refine am 39 ?_;refine aq 40 (q_convTo tok rfl rfl rfl rfl rfl (r := (x.ev cl s c).1) (by rw [IntKind.wrap_u64]; omega)) ?_;refine af 41 tok ?_;refine al 42 tok ?_;refine aq 43 (q_convTo tok rfl rfl rfl rfl rfl (r := e.size) (by rw [IntKind.wrap_u64]; omega)) ?_;refine aqb ?_;refine an ?_;refine AGo.split 44 rfl (fun hb5 => ?_) (fun hb5 => ?_)
     ·
      refine act ?_
      have hz := hb5
      refine asr ?_;refine am 45 ?_;refine aq 46 (q_nilCheck rfl rfl rfl) ?_;refine af 47 tok ?_;refine AOps.w rfl rfl (o_store tok rfl rfl rfl rfl rfl rfl rfl rfl rfl (by decide) rfl z40q) ?_;refine an ?_;refine asr ?_;refine aa 4 ?_;refine an ?_;refine AGo.ret ?_
      rw [ev_k3b ho hx hf hz]
      exact ⟨[_], ⟨rfl, trivial⟩, rfl, HSub.put (HSub.put (HSub.put (HSub.none _) rfl) rfl) rfl⟩
     ·
      refine acf ?_
      have hz := hb5
      have hz2 : (x.ev cl s c).1 < e.size := by simpa using hb5
      have hidx : 0 ≤ e.slot + (x.ev cl s c).1 ∧ e.slot + (x.ev cl s c).1 < C.words.toNat := by omega
      refine AGo.skip ?_;refine AGo.seq ?_;refine AGo.draw mix ?_;refine dm 48 ?_;refine dq 49 (q_nilCheck rfl rfl rfl) ?_;refine df 50 tok ?_;refine dl 51 tok ?_;refine df 52 tok ?_;refine dl 53 tok ?_;refine dm 54 ?_;refine dq 55 (q_convTo tok rfl rfl rfl rfl rfl (r := (x.ev cl s c).1) (by exact wrap_i64 (by omega) (by omega))) ?_;refine dq 56 (q_bin (r := .int .i64 (e.slot + (x.ev cl s c).1)) rfl rfl rfl z29q) ?_;refine dq 57 (q_index_ref tok rfl rfl rfl rfl rfl rfl rfl (by rw [regCells_len, hgx.1.m.len]) rfl hidx.1 (by have := hidx.2; omega)) ?_;refine dq 58 (q_load tok rfl rfl rfl (.ptr _ _ _ _ _ _ _ _ rfl (by rw [regCells_len, hgx.1.m.len]) (rcell (by have := hidx; have := hgx.1.m.len; omega))) rfl) ?_;refine da 4 ?_;refine DOps.nil (by kernel_rfl) ?_;refine AGo.ret ?_
      rw [ev_k3c ho hx hf hz]
      exact ⟨[_], ⟨rfl, trivial⟩, rfl, HSub.put (HSub.put (HSub.put (HSub.none _) rfl) rfl) rfl⟩
   ·
    refine acf ?_
    have n3 : e.kind ≠ 3 := by simpa using hb3
    refine asr ?_;refine aqb ?_;refine aa 59 ?_;refine an ?_;refine AGo.split 59 rfl (fun hb6 => ?_) (fun hb6 => ?_)
    ·
     refine act ?_
     have ho : e.kind = 4 := by simpa using hb6
     refine asr ?_;refine am 61 ?_;refine af 62 tok ?_;refine al 63 tok ?_;refine af 64 tok ?_;refine al 65 tok ?_;refine ax 66 (o_call (hc := (cheap hNew C s fuel c)) (hw := (cheap hNone C s fuel (CE.evC cl s e.slot e.kids [] c).2)) [2, 1, 0] [(0, (.row false 11 [cCells C s fuel (CE.evC cl s e.slot e.kids [] c).2])), (1, (.row true 1 (regCells ((CE.evC cl s e.slot e.kids [] c).2).m.words))), (2, (.row true 1 (byteCells ((CE.evC cl s e.slot e.kids [] c).2).m.out)))] rfl Try.func71 (by kernel_rfl) rfl rfl rfl ⟨⟨_, rfl, rfl⟩, ⟨_, rfl, rfl⟩, ⟨_, rfl, rfl⟩, trivial⟩ rfl (hres_cons rfl (hres_cons rfl (hres_cons rfl (hres_nil _)))) ⟨⟨_, rfl, rfl, rfl⟩, ⟨_, rfl, rfl, rfl⟩, ⟨_, rfl, rfl, rfl⟩, trivial⟩ rfl (hcall ho)) ?_;refine aa 4 ?_;refine an ?_;refine AGo.ret ?_
     rw [ev_k4 ho]
     exact ⟨[_], ⟨rfl, trivial⟩, rfl, HSub.put (HSub.put (HSub.put (HSub.none _) rfl) rfl) rfl⟩
    ·
     refine acf ?_
     have n4 : e.kind ≠ 4 := by simpa using hb6
     refine asr ?_;refine aqb ?_;refine aa 67 ?_;refine an ?_;refine AGo.split 67 rfl (fun hb7 => ?_) (fun hb7 => ?_)
     ·
      refine act ?_
      have ho : e.kind = 5 := by simpa using hb7
      refine AGo.seq ?_;refine AGo.seq ?_;refine AGo.draw mix ?_;refine dm 69 ?_;refine dq 70 (q_nilCheck rfl rfl rfl) ?_;refine df 71 tok ?_;refine dl 72 tok ?_;refine dm 73 ?_;refine dq 74 (q_nilCheck rfl rfl rfl) ?_;refine df 75 tok ?_;refine dl 76 tok ?_;refine dq 77 (q_len tok rfl rfl rfl rfl rfl) ?_;refine dq 78 (q_bin rfl rfl rfl rfl) ?_;refine DOps.nil (by kernel_rfl) ?_;refine AGo.split 78 rfl (fun hb8 => ?_) (fun hb8 => ?_)
      ·
       refine act ?_
       have hrd : ¬ c.m.read < s.size := by have h := hb8; simp at h; omega
       refine asr ?_;refine aa 4 ?_;refine an ?_;refine AGo.ret ?_
       rw [ev_k5b ho hrd]
       exact ⟨[_], ⟨rfl, trivial⟩, rfl, HSub.put (HSub.put (HSub.put (HSub.none _) rfl) rfl) rfl⟩
      ·
       refine acf ?_
       have hrd : c.m.read < s.size := by have h := hb8; simp at h; omega
       refine AGo.skip ?_;refine asr ?_;refine am 79 ?_;refine aq 80 (q_nilCheck rfl rfl rfl) ?_;refine af 81 tok ?_;refine al 82 tok ?_;refine aq 83 (q_inc rfl rfl hrd (by simp only [maxLen]; omega)) ?_;refine aq 84 (q_nilCheck rfl rfl rfl) ?_;refine af 85 tok ?_;refine AOps.w rfl rfl (o_store tok rfl rfl rfl rfl rfl rfl rfl rfl rfl (by decide) rfl z40q) ?_;refine an ?_;refine AGo.seq ?_;refine AGo.draw mix ?_;refine dm 86 ?_;refine dq 87 (q_nilCheck rfl rfl rfl) ?_;refine df 88 tok ?_;refine dl 89 tok ?_;refine dm 90 ?_;refine dq 91 (q_nilCheck rfl rfl rfl) ?_;refine df 92 tok ?_;refine dl 93 tok ?_;refine dq 94 (q_bin (r := .int .i64 (c.m.read : Int)) rfl rfl rfl z26q) ?_;refine dq 95 (q_index_str (c := inAt s c.m.read) tok rfl rfl rfl rfl rfl (Int.natCast_nonneg _) (inAt_get hrd)) ?_;refine dq 96 (q_convTo tok rfl rfl rfl rfl rfl (r := ((inAt s c.m.read).toNat : Int)) (by rw [IntKind.wrap_u32]; have := (byte_w (inAt s c.m.read)).2; omega)) ?_
       refine da 4 ?_;refine DOps.nil (by kernel_rfl) ?_;refine AGo.ret ?_
       rw [ev_k5a ho hrd]
       exact ⟨[_], ⟨rfl, trivial⟩, rfl, HSub.put (HSub.put (HSub.put (HSub.none _) rfl) rfl) rfl⟩
     ·
      refine acf ?_
      have n5 : e.kind ≠ 5 := by simpa using hb7
      have hK := eok_kK hok n1 n2 n3 n4 n5
      have heK : eK e := ⟨n1, n2, n3, n4, n5⟩
      obtain ⟨x, hx, hxm⟩ := get0 (l := e.kids) (by omega)
      have hgx : (x.ev cl s c).2.good C.words.toNat ∧ isW (x.ev cl s c).1 := ev_good (s := s) hg x.parts x (Nat.le_refl _) (hk.kidsOk.1 x hxm) c hc
      have hv1 := hgx.2.1
      have hv2 := hgx.2.2
      refine AGo.skip ?_;refine asr ?_;refine am 97 ?_;refine af 98 tok ?_;refine al 99 tok ?_;refine aq 100 (q_index_lst tok rfl rfl rfl rfl rfl rfl (by decide) (idxE0 hx) rfl) ?_;refine al 101 tok ?_;refine ax 102 (o_call (hc := (cheap hNew C s fuel c)) (hw := (cheap hNone C s fuel (x.ev cl s c).2)) [2, 1, 0] [(0, (.row false 11 [cCells C s fuel (x.ev cl s c).2])), (1, (.row true 1 (regCells ((x.ev cl s c).2).m.words))), (2, (.row true 1 (byteCells ((x.ev cl s c).2).m.out)))] rfl Try.func73 (by kernel_rfl) rfl rfl rfl ⟨⟨_, rfl, rfl⟩, ⟨_, rfl, rfl⟩, ⟨_, rfl, rfl⟩, trivial⟩ rfl (hres_cons rfl (hres_cons rfl (hres_cons rfl (hres_nil _)))) ⟨⟨_, rfl, rfl, rfl⟩, ⟨_, rfl, rfl, rfl⟩, ⟨_, rfl, rfl, rfl⟩, trivial⟩ rfl (hE x hxm c hc)) ?_;refine aa 6 ?_;refine an ?_;refine AGo.seq ?_;refine asr ?_;refine am 103 ?_;refine aq 104 (q_nilCheck rfl rfl rfl) ?_;refine af 105 tok ?_;refine al 106 tok ?_
      refine aqb ?_;refine an ?_;refine AGo.split 107 rfl (fun hb9 => ?_) (fun hb9 => ?_)
      ·
       refine act ?_
       have hf := hb9
       refine asr ?_;refine aa 4 ?_;refine an ?_;refine AGo.ret ?_
       rw [ev_Ka heK hx hf]
       exact ⟨[_], ⟨rfl, trivial⟩, rfl, HSub.put (HSub.put (HSub.put (HSub.none _) rfl) rfl) rfl⟩
      ·
       refine acf ?_
       have hf := hb9
       refine AGo.skip ?_;refine AGo.seq ?_;refine asr ?_;refine af 108 tok ?_;refine al 109 tok ?_;refine an ?_;refine AGo.block ?_;refine asr ?_;refine aqb ?_;refine aa 110 ?_;refine an ?_;refine AGo.split 110 rfl (fun hb10 => ?_) (fun hb10 => ?_)
       ·
        refine act ?_
        have ho : e.kind = 7 := by simpa using hb10
        refine asr ?_;refine am 112 ?_;refine aqb ?_;refine ax 114 (o_pure rfl Try.func94 (by kernel_rfl) rfl rfl rfl (flag19_ok _)) ?_;refine aa 4 ?_;refine an ?_;refine AGo.ret ?_
        rw [ev_7 heK hx hf ho]
        exact ⟨[_], ⟨rfl, trivial⟩, rfl, HSub.put (HSub.put (HSub.put (HSub.none _) rfl) rfl) rfl⟩
       ·
        refine acf ?_;refine asr ?_;refine aqb ?_;refine aa 115 ?_;refine an ?_;refine AGo.split 115 rfl (fun hb11 => ?_) (fun hb11 => ?_)
        ·
         refine act ?_
         have ho : e.kind = 8 := by simpa using hb11
         obtain ⟨y, hy, hym⟩ := get1 (l := e.kids) (by omega)
         have hgy : (y.ev cl s (x.ev cl s c).2).2.good C.words.toNat ∧ isW (y.ev cl s (x.ev cl s c).2).1 := ev_good (s := s) hg y.parts y (Nat.le_refl _) (hk.kidsOk.1 y hym) _ hgx.1
         refine AGo.seq ?_;refine asr ?_;refine am 117 ?_;refine aqb ?_;refine an ?_;refine AGo.split 118 rfl (fun hb12 => ?_) (fun hb12 => ?_)
         ·
          refine act ?_
          have hz := hb12
          refine asr ?_;refine aa 4 ?_;refine an ?_;refine AGo.ret ?_
          rw [ev_8a heK hx hf ho hz]
          exact ⟨[_], ⟨rfl, trivial⟩, rfl, HSub.put (HSub.put (HSub.put (HSub.none _) rfl) rfl) rfl⟩
         ·
          refine acf ?_
          have hz := hb12
          refine AGo.skip ?_;refine asr ?_;refine am 119 ?_;refine af 120 tok ?_;refine al 121 tok ?_;refine aq 122 (q_index_lst tok rfl rfl rfl rfl rfl rfl (by decide) (idxE1 hy) rfl) ?_;refine al 123 tok ?_;refine ax 124 (o_call (hc := (cheap hNew C s fuel (x.ev cl s c).2)) (hw := (cheap hNone C s fuel (y.ev cl s (x.ev cl s c).2).2)) [2, 1, 0] [(0, (.row false 11 [cCells C s fuel (y.ev cl s (x.ev cl s c).2).2])), (1, (.row true 1 (regCells ((y.ev cl s (x.ev cl s c).2).2).m.words))), (2, (.row true 1 (byteCells ((y.ev cl s (x.ev cl s c).2).2).m.out)))] rfl Try.func73 (by kernel_rfl) rfl rfl rfl ⟨⟨_, rfl, rfl⟩, ⟨_, rfl, rfl⟩, ⟨_, rfl, rfl⟩, trivial⟩ rfl (hres_cons rfl (hres_cons rfl (hres_cons rfl (hres_nil _)))) ⟨⟨_, rfl, rfl, rfl⟩, ⟨_, rfl, rfl, rfl⟩, ⟨_, rfl, rfl, rfl⟩, trivial⟩ rfl (hE y hym _ hgx.1)) ?_;refine aqb ?_;refine ax 126 (o_pure rfl Try.func94 (by kernel_rfl) rfl rfl rfl (flag19_ok _)) ?_
          refine aa 4 ?_;refine an ?_;refine AGo.ret ?_
          rw [ev_8b heK hx hy hf ho hz]
          exact ⟨[_], ⟨rfl, trivial⟩, rfl, HSub.put (HSub.put (HSub.put (HSub.none _) rfl) rfl) rfl⟩
        ·
         refine acf ?_;refine asr ?_;refine aqb ?_;refine aa 127 ?_;refine an ?_;refine AGo.split 127 rfl (fun hb13 => ?_) (fun hb13 => ?_)
         ·
          refine act ?_
          have ho : e.kind = 9 := by simpa using hb13
          obtain ⟨y, hy, hym⟩ := get1 (l := e.kids) (by omega)
          have hgy : (y.ev cl s (x.ev cl s c).2).2.good C.words.toNat ∧ isW (y.ev cl s (x.ev cl s c).2).1 := ev_good (s := s) hg y.parts y (Nat.le_refl _) (hk.kidsOk.1 y hym) _ hgx.1
          refine AGo.seq ?_;refine asr ?_;refine am 129 ?_;refine aqb ?_;refine an ?_;refine AGo.split 130 rfl (fun hb14 => ?_) (fun hb14 => ?_)
          ·
           refine act ?_
           have hz := hb14
           refine asr ?_;refine aa 4 ?_;refine an ?_;refine AGo.ret ?_
           rw [ev_9a heK hx hf ho hz]
           exact ⟨[_], ⟨rfl, trivial⟩, rfl, HSub.put (HSub.put (HSub.put (HSub.none _) rfl) rfl) rfl⟩
          ·
           refine acf ?_
           have hz := hb14
           refine AGo.skip ?_;refine asr ?_;refine am 131 ?_;refine af 132 tok ?_;refine al 133 tok ?_;refine aq 134 (q_index_lst tok rfl rfl rfl rfl rfl rfl (by decide) (idxE1 hy) rfl) ?_;refine al 135 tok ?_;refine ax 136 (o_call (hc := (cheap hNew C s fuel (x.ev cl s c).2)) (hw := (cheap hNone C s fuel (y.ev cl s (x.ev cl s c).2).2)) [2, 1, 0] [(0, (.row false 11 [cCells C s fuel (y.ev cl s (x.ev cl s c).2).2])), (1, (.row true 1 (regCells ((y.ev cl s (x.ev cl s c).2).2).m.words))), (2, (.row true 1 (byteCells ((y.ev cl s (x.ev cl s c).2).2).m.out)))] rfl Try.func73 (by kernel_rfl) rfl rfl rfl ⟨⟨_, rfl, rfl⟩, ⟨_, rfl, rfl⟩, ⟨_, rfl, rfl⟩, trivial⟩ rfl (hres_cons rfl (hres_cons rfl (hres_cons rfl (hres_nil _)))) ⟨⟨_, rfl, rfl, rfl⟩, ⟨_, rfl, rfl, rfl⟩, ⟨_, rfl, rfl, rfl⟩, trivial⟩ rfl (hE y hym _ hgx.1)) ?_;refine aqb ?_;refine ax 138 (o_pure rfl Try.func94 (by kernel_rfl) rfl rfl rfl (flag19_ok _)) ?_
           refine aa 4 ?_;refine an ?_;refine AGo.ret ?_
           rw [ev_9b heK hx hy hf ho hz]
           exact ⟨[_], ⟨rfl, trivial⟩, rfl, HSub.put (HSub.put (HSub.put (HSub.none _) rfl) rfl) rfl⟩
         ·
          refine acf ?_
          have ho : e.kind = 6 := by have h := hb13; simp_all
          obtain ⟨y, hy, hym⟩ := get1 (l := e.kids) (by omega)
          have hgy : (y.ev cl s (x.ev cl s c).2).2.good C.words.toNat ∧ isW (y.ev cl s (x.ev cl s c).2).1 := ev_good (s := s) hg y.parts y (Nat.le_refl _) (hk.kidsOk.1 y hym) _ hgx.1
          refine AGo.skip ?_;refine asr ?_;refine am 139 ?_;refine af 140 tok ?_;refine al 141 tok ?_;refine aq 142 (q_index_lst tok rfl rfl rfl rfl rfl rfl (by decide) (idxE1 hy) rfl) ?_;refine al 143 tok ?_;refine ax 144 (o_call (hc := (cheap hNew C s fuel (x.ev cl s c).2)) (hw := (cheap hNone C s fuel (y.ev cl s (x.ev cl s c).2).2)) [2, 1, 0] [(0, (.row false 11 [cCells C s fuel (y.ev cl s (x.ev cl s c).2).2])), (1, (.row true 1 (regCells ((y.ev cl s (x.ev cl s c).2).2).m.words))), (2, (.row true 1 (byteCells ((y.ev cl s (x.ev cl s c).2).2).m.out)))] rfl Try.func73 (by kernel_rfl) rfl rfl rfl ⟨⟨_, rfl, rfl⟩, ⟨_, rfl, rfl⟩, ⟨_, rfl, rfl⟩, trivial⟩ rfl (hres_cons rfl (hres_cons rfl (hres_cons rfl (hres_nil _)))) ⟨⟨_, rfl, rfl, rfl⟩, ⟨_, rfl, rfl, rfl⟩, ⟨_, rfl, rfl, rfl⟩, trivial⟩ rfl (hE y hym _ hgx.1)) ?_;refine aa 7 ?_;refine an ?_;refine AGo.seq ?_;refine asr ?_;refine am 145 ?_;refine aq 146 (q_nilCheck rfl rfl rfl) ?_
          refine af 147 tok ?_;refine al 148 tok ?_;refine aqb ?_;refine an ?_;refine AGo.split 149 rfl (fun hb15 => ?_) (fun hb15 => ?_)
          ·
           refine act ?_
           have hgf := hb15
           refine asr ?_;refine aa 4 ?_;refine an ?_;refine AGo.ret ?_
           rw [ev_6a heK hx hy hf ho hgf]
           exact ⟨[_], ⟨rfl, trivial⟩, rfl, HSub.put (HSub.put (HSub.put (HSub.none _) rfl) rfl) rfl⟩
          ·
           refine acf ?_
           have hgf := hb15
           refine AGo.skip ?_;refine asr ?_;refine af 151 tok ?_;refine al 152 tok ?_;refine am 153 ?_;refine am 154 ?_;refine ax 155 (o_pure rfl Try.func74 (by kernel_rfl) rfl rfl rfl (rapply_ok e.op (x.ev cl s c).1 (y.ev cl s (x.ev cl s c).2).1 hgx.2 hgy.2)) ?_;refine am 150 ?_;refine aq 156 (q_extract rfl rfl rfl) ?_;refine aq 157 (q_extract rfl rfl rfl) ?_;refine aa 8 ?_;refine aa 9 ?_;refine an ?_;refine AGo.seq ?_;refine asr ?_;refine am 158 ?_;refine aqb ?_;refine an ?_;refine AGo.split 159 rfl (fun hb16 => ?_) (fun hb16 => ?_)
           ·
            refine act ?_
            have hz := hb16
            refine AGo.region ?_;refine am 160 ?_;refine aq 161 (q_nilCheck rfl rfl rfl) ?_;refine af 162 tok ?_;refine AOps.w rfl rfl (o_store tok rfl rfl rfl rfl rfl rfl rfl rfl rfl (by decide) rfl z40q) ?_;refine an ?_;refine asr ?_;refine am 163 ?_;refine aa 4 ?_;refine an ?_;refine AGo.ret ?_
            first
            | (rw [ev_6b heK hx hy hf ho hgf hz]; exact ⟨[_], ⟨rfl, trivial⟩, rfl, HSub.put (HSub.put (HSub.put (HSub.none _) rfl) rfl) rfl⟩)
            | (rw [ev_6c heK hx hy hf ho hgf hz]; exact ⟨[_], ⟨rfl, trivial⟩, rfl, HSub.put (HSub.put (HSub.put (HSub.none _) rfl) rfl) rfl⟩)
           ·
            refine acf ?_
            have hz := hb16
            refine AGo.skip ?_;refine asr ?_;refine am 163 ?_;refine aa 4 ?_;refine an ?_;refine AGo.ret ?_
            first
            | (rw [ev_6b heK hx hy hf ho hgf hz]; exact ⟨[_], ⟨rfl, trivial⟩, rfl, HSub.put (HSub.put (HSub.put (HSub.none _) rfl) rfl) rfl⟩)
            | (rw [ev_6c heK hx hy hf ho hgf hz]; exact ⟨[_], ⟨rfl, trivial⟩, rfl, HSub.put (HSub.put (HSub.put (HSub.none _) rfl) rfl) rfl⟩)
set_option maxHeartbeats 1000000 in
set_option maxRecDepth 100000 in
theorem rcall_step (C : Core) (s : ByteArray) (fuel : Int) (cl : CallC) (m : Nat) (f : Int) (g : CFn) (l : List CE) (c : CM) (hcl : cl = cfun C s fuel (m + 1)) (hfu : fuel ≤ 9223372036854775807) (hw0 : 0 ≤ C.words) (hw1 : C.words ≤ 1048576) (hf0 : 0 ≤ f) (hgf : C.funcs[f.toNat]? = some g) (hgp : 0 ≤ g.slots ∧ 0 ≤ g.first ∧ g.first + g.slots ≤ C.words) (hla : (l.length : Int) ≤ g.slots) (hl6 : l.length ≤ 6) (hlk : ∀ x ∈ l, x.Ok) (hc : c.good C.words.toNat) (hg : CallGood C.words.toNat cl)
    (hE : ∀ x ∈ l, ∀ c, CM.good C.words.toNat c → ACall Try.prog 73 [.ptr 0 1 0 0, .agg x.row] (cheap hNew C s fuel c) (fun r h' => r = .int .u32 (x.ev cl s c).1 ∧ HSub (cheap hNone C s fuel (x.ev cl s c).2) h')) (hB : ∀ c, CM.good C.words.toNat c → ACall Try.prog 33 [.ptr 0 1 0 0, (.lst false (g.body.map CS.cells))] (cheap hNew C s fuel c) (fun r h' => r = .tup [] ∧ HSub (cheap hNone C s fuel (CS.runL (cfun C s fuel m) s fuel g.body c)) h')) : ACall Try.prog 71 [.ptr 0 1 0 0, .int .i64 f, (.lst false (l.map CE.cells))] (cheap hNew C s fuel c) (fun r h' => r = .int .u32 (CE.evC cl s f l [] c).1 ∧ HSub (cheap hNone C s fuel (CE.evC cl s f l [] c).2) h') := by
 refine ACall.of_body (n := 93) tok Try.func71 rfl rfl ?_
 refine asr ?_
 refine aa 6 ?_
 refine an ?_
 refine asr ?_
 refine aa 7 ?_
 refine an ?_
 refine AGo.seq ?_
 refine AGo.seq ?_
 refine AGo.ghost (.dry 7 3 1 true rfl rfl rfl (by decide)) ?_
 refine AGo.region ?_
 refine aa 8 ?_
 refine an ?_
 refine AGo.block ?_
 refine AGo.loopD (γ := Nat × List Int × CM) 4 (fun q => ⟨93, (eput (eput (eput (eput (eput eNew 0 (.ptr 0 1 0 0)) 1 (.int .i64 f)) 2 (.lst false (l.map CE.cells))) 7 (.ref 3 q.2.1.length 0 q.2.1.length)) 8 (.int .i64 (q.1 : Int))), (hput (hput (hput (hput (hFrom 4) 0 (.row false 11 [cCells C s fuel q.2.2])) 1 (.row true 1 (regCells (q.2.2).m.words))) 2 (.row true 1 (byteCells (q.2.2).m.out))) 3 (.row true 1 (regCells q.2.1)))⟩) (fun q => CallI C.words.toNat cl s f l (CE.evC cl s f l [] c) q) (fun q => l.length - q.1) (0, [], c) (Sub.mk' z34q z13q) ⟨rfl, (by intro v hv; cases hv), hc, (by rw [List.drop_zero]), Nat.zero_le _⟩ (fun _ => hput_free (hput_free (hput_free (hput_free (fun b hb => hFrom_free hb) rfl) rfl) rfl) rfl) ?_
 intro q hI
 refine AGo.seq ?_
 refine asr ?_
 refine am 12 ?_
 refine am 13 ?_
 refine aq 14 (q_len tok rfl rfl rfl rfl rfl) ?_
 refine aqb ?_
 refine an ?_
 refine AGo.split 15 rfl (fun hb1 => ?_) (fun hb1 => ?_)
 ·
  refine act ?_
  have hql : q.1 < l.length := lt_of_idx hb1
  obtain ⟨x, hx⟩ := get_of_lt hql
  have hxm := List.mem_of_getElem? hx
  have hgx : (x.ev cl s q.2.2).2.good C.words.toNat ∧ isW (x.ev cl s q.2.2).1 := ev_good (s := s) hg x.parts x (Nat.le_refl _) (hlk x hxm) q.2.2 hI.good
  refine AGo.skip ?_
  refine AGo.seq ?_
  refine AGo.block ?_
  refine asr ?_
  refine am 18 ?_
  refine am 19 ?_
  refine am 20 ?_
  refine am 21 ?_
  refine aq 22 (q_index_lst tok rfl rfl rfl rfl rfl rfl (Int.natCast_nonneg _) (idxE hx) rfl) ?_
  refine al 23 tok ?_
  refine ax 24 (o_call (hc := (cheap hNew C s fuel q.2.2)) (hw := (cheap hNone C s fuel (x.ev cl s q.2.2).2)) [2, 1, 0] [(0, (.row false 11 [cCells C s fuel (x.ev cl s q.2.2).2])), (1, (.row true 1 (regCells ((x.ev cl s q.2.2).2).m.words))), (2, (.row true 1 (byteCells ((x.ev cl s q.2.2).2).m.out)))] rfl Try.func73 (by kernel_rfl) rfl rfl rfl ⟨⟨_, rfl, rfl⟩, ⟨_, rfl, rfl⟩, ⟨_, rfl, rfl⟩, trivial⟩ rfl (hres_cons rfl (hres_cons rfl (hres_cons rfl (hres_nil _)))) ⟨⟨_, rfl, rfl, rfl⟩, ⟨_, rfl, rfl, rfl⟩, ⟨_, rfl, rfl, rfl⟩, trivial⟩ rfl (hE x hxm q.2.2 hI.good)) ?_
  refine ax 25 (o_lit' tok rfl rfl rfl rfl rfl rfl (by decide) rfl rfl rfl rfl rfl rfl) ?_
  refine ax 26 (o_append tok (n := q.2.1.length) (m := 1) rfl rfl rfl rfl rfl rfl rfl rfl rfl (by simp [regCells]) rfl rfl (Nat.zero_lt_succ _) (.lst _ _) z41q (fun _ cs h => by simp [partVals] at h; subst h; rfl) rfl (by simp [regCells, partVals]; have := hI.len; omega) (by simp [regCells, partVals]; simp only [maxLen]; have := hI.len; omega)) ?_
  refine aa 7 ?_
  refine an ?_
  refine asr ?_
  refine am 27 ?_
  refine aq 28 (q_nilCheck rfl rfl rfl) ?_
  refine af 29 tok ?_
  refine al 30 tok ?_
  refine aqb ?_
  refine an ?_
  refine AGo.split 31 rfl (fun hb2 => ?_) (fun hb2 => ?_)
  ·
   refine act ?_
   have hf := hb2
   refine asr ?_
   refine aa 6 ?_
   refine an ?_
   refine AGo.ret ?_
   rw [← hI.eq, evC_bad hx hf]
   exact ⟨[_], ⟨rfl, trivial⟩, rfl, HSub.put (HSub.put (HSub.put (HSub.none _) rfl) rfl) rfl⟩
  ·
   refine acf ?_
   have hf := hb2
   refine AGo.skip ?_
   refine AGo.region ?_
   refine am 16 ?_
   refine aq 17 (q_inc rfl rfl hql (Nat.le_trans hl6 (by decide))) ?_
   refine aa 8 ?_
   refine an ?_
   exact ⟨(q.1 + 1, q.2.1 ++ [(x.ev cl s q.2.2).1], (x.ev cl s q.2.2).2), Drop.mk' (by repeat (first | exact EDrop.new _ _ | refine EDrop.put ?_ (by first | rfl | exact congrArg (fun n => some (AV.ref 3 n 0 n)) (by simp)) z35q)) (by repeat (first | exact HDrop.none _ _ | exact HDrop.tail _ _ | refine HDrop.put ?_ (by first | rfl | exact congrArg (fun es => some (AObj.row true 1 es)) (regCells_snoc _ _)) rfl (by first | rfl | exact slO_avoid _ _ | exact vaO_avoid _ | exact tab_avoid _ _ rfl rfl | exact wlk_avoid _ _ _ rfl rfl rfl))), (hI.next hx hf hgx), (by show l.length - (q.1 + 1) < l.length - q.1; omega)⟩
 ·
  refine acf ?_
  have hge := ge_of_idx hb1
  have hql : q.1 = l.length := Nat.le_antisymm hI.le hge
  have hdg : (tickC fuel q.2.2).2.good C.words.toNat := tickC_good hI.good
  refine AGo.exit ?_
  refine AGo.seq ?_
  refine asr ?_
  refine am 32 ?_
  refine ax 33 (o_call (hc := (cheap hNew C s fuel q.2.2)) (hw := (cheap hNone C s fuel (tickC fuel q.2.2).2)) [2, 1, 0] [(0, (.row false 11 [cCells C s fuel (tickC fuel q.2.2).2])), (1, (.row true 1 (regCells ((tickC fuel q.2.2).2).m.words))), (2, (.row true 1 (byteCells ((tickC fuel q.2.2).2).m.out)))] rfl Try.func72 (by kernel_rfl) rfl rfl rfl ⟨⟨_, rfl, rfl⟩, ⟨_, rfl, rfl⟩, ⟨_, rfl, rfl⟩, trivial⟩ rfl (hres_cons rfl (hres_cons rfl (hres_cons rfl (hres_nil _)))) ⟨⟨_, rfl, rfl, rfl⟩, ⟨_, rfl, rfl, rfl⟩, ⟨_, rfl, rfl, rfl⟩, trivial⟩ rfl (rtick_ok C s fuel q.2.2 hfu)) ?_
  refine aq 34 (q_not rfl rfl) ?_
  refine an ?_
  refine AGo.split 34 rfl (fun hb3 => ?_) (fun hb3 => ?_)
  ·
   refine act ?_
   have ht : (tickC fuel q.2.2).1 = false := by simpa using hb3
   refine asr ?_
   refine aa 6 ?_
   refine an ?_
   refine AGo.ret ?_
   rw [← hI.eq, evC_end hge, hcl, cfun_no ht]
   exact ⟨[_], ⟨rfl, trivial⟩, rfl, HSub.put (HSub.put (HSub.put (HSub.none _) rfl) rfl) rfl⟩
  ·
   refine acf ?_
   have ht : (tickC fuel q.2.2).1 = true := by simpa using hb3
   refine AGo.skip ?_
   refine asr ?_
   refine am 35 ?_
   refine aq 36 (q_nilCheck rfl rfl rfl) ?_
   refine af 37 tok ?_
   refine af 38 tok ?_
   refine al 39 tok ?_
   refine am 40 ?_
   refine aq 41 (q_index_lst tok rfl rfl rfl rfl rfl rfl hf0 (idx_map2 hgf) rfl) ?_
   refine al 42 tok ?_
   refine ax 9 (o_alloc tok 4 rfl rfl rfl rfl (Nat.zero_lt_succ _) rfl) ?_
   refine AOps.w rfl rfl (o_store tok rfl rfl rfl rfl rfl rfl rfl rfl rfl (by decide) rfl z40q) ?_
   refine an ?_
   refine AGo.seq ?_
   refine asr ?_
   refine aa 10 ?_
   refine an ?_
   refine AGo.block ?_
   refine AGo.loopD (γ := Nat) 5 (fun k => ⟨93, (eput (eput (eput (eput eNew 0 (.ptr 0 1 0 0)) 7 (.ref 3 q.2.1.length 0 q.2.1.length)) 9 (.ptr 4 1 0 0)) 10 (.int .i64 (k : Int))), (hput (hput (hput (hput (hput (hFrom 5) 0 (.row false 11 [cCells C s fuel (zeroD g (tickC fuel q.2.2).2 k)])) 1 (.row true 1 (regCells ((zeroD g (tickC fuel q.2.2).2 k)).m.words))) 2 (.row true 1 (byteCells ((zeroD g (tickC fuel q.2.2).2 k)).m.out))) 3 (.row true 1 (regCells q.2.1))) 4 (.row false 5 [g.cells]))⟩) (fun k => k ≤ g.slots.toNat) (fun k => g.slots.toNat - k) 0 (Sub.mk' z34q z13q) (Nat.zero_le _) (fun _ => hput_free (hput_free (hput_free (hput_free (hput_free (fun b hb => hFrom_free hb) rfl) rfl) rfl) rfl) rfl) ?_
   intro k hk
   refine AGo.seq ?_
   refine asr ?_
   refine am 43 ?_
   refine af 44 tok ?_
   refine al 45 tok ?_
   refine aqb ?_
   refine an ?_
   refine AGo.split 46 rfl (fun hb4 => ?_) (fun hb4 => ?_)
   ·
    refine act ?_
    have hkl : k < g.slots.toNat := by have h := hb4; simp at h; omega
    have hkb : 0 ≤ g.first + (k : Int) ∧ g.first + (k : Int) < (C.words.toNat : Int) := by omega
    refine AGo.skip ?_;refine AGo.seq ?_;refine AGo.block ?_;refine AGo.draw mix ?_;refine dm 49 ?_;refine dq 50 (q_nilCheck rfl rfl rfl) ?_;refine df 51 tok ?_;refine dl 52 tok ?_;refine df 53 tok ?_;refine dl 54 tok ?_;refine dm 55 ?_;refine dq 56 (q_bin (r := .int .i64 (g.first + (k : Int))) rfl rfl rfl z29q) ?_;refine dq 57 (q_index_ref tok rfl rfl rfl rfl rfl rfl rfl (by rw [regCells_len, (zeroD_good hdg _).m.len]) rfl hkb.1 (by have := hkb.2; omega)) ?_;refine DOps.w rfl rfl (o_store tok rfl rfl rfl rfl rfl rfl (by rw [regCells_len, (zeroD_good hdg _).m.len]) (rcell (by rw [(zeroD_good hdg _).m.len]; omega)) rfl (by decide) rfl z40q) ?_;refine DOps.nil (by kernel_rfl) ?_;refine AGo.region ?_;refine am 47 ?_;refine aq 48 (q_inc rfl rfl (show k < g.slots.toNat by omega) (by simp only [maxLen]; omega)) ?_
    refine aa 10 ?_;refine an ?_;exact ⟨k+1, Drop.mk' z22q z10q, hkl, by omega⟩
   ·
    refine acf ?_
    have hke : k = g.slots.toNat := by have h := hb4; simp at h; omega
    refine AGo.exit ?_;refine AGo.seq ?_;refine asr ?_;refine aa 11 ?_;refine an ?_;refine AGo.block ?_;refine AGo.loopD (γ := Nat) 5 (fun k => ⟨93, (eput (eput (eput (eput eNew 0 (.ptr 0 1 0 0)) 7 (.ref 3 q.2.1.length 0 q.2.1.length)) 9 (.ptr 4 1 0 0)) 11 (.int .i64 (k : Int))), (hput (hput (hput (hput (hput (hFrom 5) 0 (.row false 11 [cCells C s fuel (argsD g q.2.1 (tickC fuel q.2.2).2 k)])) 1 (.row true 1 (regCells ((argsD g q.2.1 (tickC fuel q.2.2).2 k)).m.words))) 2 (.row true 1 (byteCells ((argsD g q.2.1 (tickC fuel q.2.2).2 k)).m.out))) 3 (.row true 1 (regCells q.2.1))) 4 (.row false 5 [g.cells]))⟩) (fun k => k ≤ q.2.1.length) (fun k => q.2.1.length - k) 0 (Sub.mk' z34q (by repeat (first | exact HSub.refl _ | exact HSub.none _ | exact HSub.from_new _ | exact HSub.from_from (by first | decide | omega | (dsimp only; omega)) | refine HSub.put ?_ (by first | rfl | (subst hke; rfl)) | refine HSub.from_put ?_ (by first | decide | omega | (dsimp only; omega)) | refine HSub.from_rm ?_ (by decide)))) (Nat.zero_le _) (fun _ => hput_free (hput_free (hput_free (hput_free (hput_free (fun b hb => hFrom_free hb) rfl) rfl) rfl) rfl) rfl) ?_
    intro k hk
    refine AGo.seq ?_;refine asr ?_;refine am 58 ?_;refine am 59 ?_;refine aq 60 (q_len tok rfl rfl rfl rfl rfl) ?_;refine aqb ?_;refine an ?_;refine AGo.split 61 rfl (fun hb5 => ?_) (fun hb5 => ?_)
    ·
     refine act ?_
     have hkl : k < q.2.1.length := by have h := hb5; simp at h; omega
     have hln := hI.len
     have hkb : 0 ≤ g.first + (k : Int) ∧ g.first + (k : Int) < (C.words.toNat : Int) := by omega
     refine AGo.skip ?_;refine AGo.seq ?_;refine AGo.block ?_;refine AGo.draw mix ?_;refine dm 64 ?_;refine dq 65 (q_nilCheck rfl rfl rfl) ?_;refine df 66 tok ?_;refine dl 67 tok ?_;refine df 68 tok ?_;refine dl 69 tok ?_;refine dm 70 ?_;refine dq 71 (q_bin (r := .int .i64 (g.first + (k : Int))) rfl rfl rfl z29q) ?_;refine dm 72 ?_;refine dm 73 ?_;refine dq 74 (q_index_ref tok rfl rfl rfl rfl rfl rfl rfl (by rw [regCells_len]) rfl (Int.natCast_nonneg _) (by omega)) ?_;refine dq 75 (q_load tok rfl rfl rfl (.ptr _ _ _ _ _ _ _ _ rfl (by rw [regCells_len]) (rcell (by omega))) rfl) ?_;refine dq 76 (q_index_ref tok rfl rfl rfl rfl rfl rfl rfl (by rw [regCells_len, (argsD_good hdg hI.args _).m.len]) rfl hkb.1 (by have := hkb.2; omega)) ?_;refine DOps.w rfl rfl (o_store tok rfl rfl rfl rfl rfl rfl (by rw [regCells_len, (argsD_good hdg hI.args _).m.len]) (rcell (by rw [(argsD_good hdg hI.args _).m.len]; omega)) rfl (by decide) rfl z40q) ?_
     refine DOps.nil (by kernel_rfl) ?_;refine AGo.region ?_;refine am 62 ?_;refine aq 63 (q_inc rfl rfl hkl (by have := hI.len; simp only [maxLen]; omega)) ?_;refine aa 11 ?_;refine an ?_;exact ⟨k+1, Drop.mk' z22q z10q, hkl, by omega⟩
    ·
     refine acf ?_
     have hke : k = q.2.1.length := by have h := hb5; simp at h; omega
     subst hke
     refine AGo.exit ?_;refine asr ?_;refine am 77 ?_;refine af 78 tok ?_;refine al 79 tok ?_;refine ax 80 (o_call (hc := (cheap hNew C s fuel (argsD g q.2.1 (tickC fuel q.2.2).2 q.2.1.length))) (hw := (cheap hNone C s fuel (CS.runL (cfun C s fuel m) s fuel g.body (argsD g q.2.1 (tickC fuel q.2.2).2 q.2.1.length)))) [2, 1, 0] [(0, (.row false 11 [cCells C s fuel (CS.runL (cfun C s fuel m) s fuel g.body (argsD g q.2.1 (tickC fuel q.2.2).2 q.2.1.length))])), (1, (.row true 1 (regCells ((CS.runL (cfun C s fuel m) s fuel g.body (argsD g q.2.1 (tickC fuel q.2.2).2 q.2.1.length))).m.words))), (2, (.row true 1 (byteCells ((CS.runL (cfun C s fuel m) s fuel g.body (argsD g q.2.1 (tickC fuel q.2.2).2 q.2.1.length))).m.out)))] rfl Try.func33 (by kernel_rfl) rfl rfl rfl ⟨⟨_, rfl, rfl⟩, ⟨_, rfl, rfl⟩, ⟨_, rfl, rfl⟩, trivial⟩ rfl (hres_cons rfl (hres_cons rfl (hres_cons rfl (hres_nil _)))) ⟨⟨_, rfl, rfl, rfl⟩, ⟨_, rfl, rfl, rfl⟩, ⟨_, rfl, rfl, rfl⟩, trivial⟩ rfl (hB _ (argsD_good hdg hI.args _))) ?_
     refine an ?_;refine AGo.seq ?_;refine asr ?_;refine am 81 ?_;refine aq 82 (q_nilCheck rfl rfl rfl) ?_;refine af 83 tok ?_;refine al 84 tok ?_;refine aq 85 (q_not rfl rfl) ?_;refine an ?_;refine AGo.split 85 rfl (fun hb6 => ?_) (fun hb6 => ?_)
     ·
      refine act ?_
      have ho : (CS.runL (cfun C s fuel m) s fuel g.body (argsD g q.2.1 (tickC fuel q.2.2).2 q.2.1.length)).over = false := by simpa using hb6
      refine asr ?_;refine aa 6 ?_;refine an ?_;refine AGo.ret ?_
      rw [← hI.eq, evC_end hge, hcl, cfun_yes0 ht hgf ho]
      exact ⟨[_], ⟨rfl, trivial⟩, rfl, HSub.put (HSub.put (HSub.put (HSub.none _) rfl) rfl) rfl⟩
     ·
      refine acf ?_
      have ho : (CS.runL (cfun C s fuel m) s fuel g.body (argsD g q.2.1 (tickC fuel q.2.2).2 q.2.1.length)).over = true := by simpa using hb6
      refine AGo.skip ?_;refine asr ?_;refine am 86 ?_;refine aq 87 (q_nilCheck rfl rfl rfl) ?_;refine af 88 tok ?_;refine AOps.w rfl rfl (o_store tok rfl rfl rfl rfl rfl rfl rfl rfl rfl (by decide) rfl z40q) ?_;refine an ?_;refine asr ?_;refine am 89 ?_;refine aq 90 (q_nilCheck rfl rfl rfl) ?_;refine af 91 tok ?_;refine al 92 tok ?_;refine aa 6 ?_;refine an ?_;refine AGo.ret ?_
      rw [← hI.eq, evC_end hge, hcl, cfun_yes1 ht hgf ho]
      exact ⟨[_], ⟨rfl, trivial⟩, rfl, HSub.put (HSub.put (HSub.put (HSub.none _) rfl) rfl) rfl⟩
set_option maxRecDepth 100000 in
theorem rstmts_step (C : Core) (s : ByteArray) (fuel : Int) (cl : CallC) (l : List CS) (c : CM) (hlen : l.length ≤ maxLen) (hc : c.good C.words.toNat) (hS : ∀ x ∈ l, ∀ c, CM.good C.words.toNat c → ACall Try.prog 53 [.ptr 0 1 0 0, .agg x.row] (cheap hNew C s fuel c) (fun r h' => r = .tup [] ∧ HSub (cheap hNone C s fuel (x.run cl s fuel c)) h')) (hgd : ∀ x ∈ l, RunGood C.words.toNat cl s fuel x) : ACall Try.prog 33 [.ptr 0 1 0 0, (.lst false (l.map CS.cells))] (cheap hNew C s fuel c) (fun r h' => r = .tup [] ∧ HSub (cheap hNone C s fuel (CS.runL cl s fuel l c)) h') := by
 refine ACall.of_body (n := 31) tok Try.func33 rfl rfl ?_
 refine asr ?_
 refine aa 4 ?_
 refine an ?_
 refine AGo.block ?_
 refine AGo.loopD (γ := Nat × CM) 3 (fun q => ⟨31, (eput (eput (eput eNew 0 (.ptr 0 1 0 0)) 1 (.lst false (l.map CS.cells))) 4 (.int .i64 (q.1 : Int))), (hput (hput (hput (hFrom 3) 0 (.row false 11 [cCells C s fuel q.2])) 1 (.row true 1 (regCells (q.2).m.words))) 2 (.row true 1 (byteCells (q.2).m.out)))⟩) (fun q => q.2.good C.words.toNat ∧ CS.runL cl s fuel (l.drop q.1) q.2 = CS.runL cl s fuel l c ∧ q.1 ≤ l.length) (fun q => l.length - q.1) (0, c) (Sub.mk' z34q z13q) ⟨hc, by rw [List.drop_zero], Nat.zero_le _⟩ (fun _ => hput_free (hput_free (hput_free (fun b hb => hFrom_free hb) rfl) rfl) rfl) ?_
 intro q hI
 refine AGo.seq ?_
 refine asr ?_
 refine am 5 ?_
 refine am 6 ?_
 refine aq 7 (q_len tok rfl rfl rfl rfl rfl) ?_
 refine aqb ?_
 refine am 9 ?_
 refine AOps.split 9 rfl (fun hb1 => ?_) (fun hb1 => ?_)
 ·
  refine am 10 ?_
  refine aq 11 (q_nilCheck rfl rfl rfl) ?_
  refine af 12 tok ?_
  refine al 13 tok ?_
  refine aqb ?_
  refine apt ?_
  refine am 16 ?_
  refine AOps.split 16 rfl (fun hb2 => ?_) (fun hb2 => ?_)
  ·
   refine am 17 ?_
   refine aq 18 (q_nilCheck rfl rfl rfl) ?_
   refine af 19 tok ?_
   refine al 20 tok ?_
   refine aq 21 (q_not rfl rfl) ?_
   refine apt ?_
   refine an ?_
   refine AGo.split 22 rfl (fun hb3 => ?_) (fun hb3 => ?_)
   ·
    refine act ?_
    have hql : q.1 < l.length := lt_of_idx hb1
    obtain ⟨x, hx⟩ := get_of_lt hql
    have hxm := List.mem_of_getElem? hx
    have hfin : (q.2.m.fin == 0) = true := hb2
    have hov : q.2.over = false := by have h := hb3; simpa using h
    refine AGo.skip ?_;refine AGo.seq ?_;refine AGo.block ?_;refine AGo.region ?_;refine am 25 ?_;refine am 26 ?_;refine am 27 ?_;refine aq 28 (q_index_lst tok rfl rfl rfl rfl rfl rfl (Int.natCast_nonneg _) (idxS hx) rfl) ?_;refine al 29 tok ?_;refine ax 30 (o_call (hc := (cheap hNew C s fuel q.2)) (hw := (cheap hNone C s fuel (x.run cl s fuel q.2))) [2, 1, 0] [(0, (.row false 11 [cCells C s fuel (x.run cl s fuel q.2)])), (1, (.row true 1 (regCells ((x.run cl s fuel q.2)).m.words))), (2, (.row true 1 (byteCells ((x.run cl s fuel q.2)).m.out)))] rfl Try.func53 (by kernel_rfl) rfl rfl rfl ⟨⟨_, rfl, rfl⟩, ⟨_, rfl, rfl⟩, ⟨_, rfl, rfl⟩, trivial⟩ rfl (hres_cons rfl (hres_cons rfl (hres_cons rfl (hres_nil _)))) ⟨⟨_, rfl, rfl, rfl⟩, ⟨_, rfl, rfl, rfl⟩, ⟨_, rfl, rfl, rfl⟩, trivial⟩ rfl (hS x hxm q.2 hI.1)) ?_;refine an ?_;refine AGo.region ?_;refine am 23 ?_;refine aq 24 (q_inc rfl rfl hql hlen) ?_
    refine aa 4 ?_;refine an ?_;exact ⟨(q.1 + 1, (x.run cl s fuel q.2)), Drop.mk' z22q z17q, ⟨hgd x hxm q.2 hI.1, (runSL_go hx hfin hov).symm.trans hI.2.1, hql⟩, (by show l.length - (q.1 + 1) < l.length - q.1; omega)⟩
   ·
    refine acf ?_
    first
    | have hov : q.2.over = true := by have h := hb3; simpa using h
    | skip
    refine AGo.exit ?_;refine ⟨[], trivial, rfl, ?_⟩
    have hend : CS.runL cl s fuel l c = q.2 := by
      rw [← hI.2.1]
      first | exact runSL_end hge | exact runSL_fin hnf | exact runSL_over hov | exact runSL_end (ge_of_idx hb1) | exact runSL_fin hb2
    rw [hend]
    exact HSub.put (HSub.put (HSub.put (HSub.none _) rfl) rfl) rfl
  ·
   iterate 5 refine ak _ ?_
   refine apf ?_
   refine an ?_
   refine acf ?_
   first
   | have hov : q.2.over = true := by have h := hb3; simpa using h
   | skip
   refine AGo.exit ?_
   refine ⟨[], trivial, rfl, ?_⟩
   have hend : CS.runL cl s fuel l c = q.2 := by
     rw [← hI.2.1]
     first | exact runSL_end hge | exact runSL_fin hnf | exact runSL_over hov | exact runSL_end (ge_of_idx hb1) | exact runSL_fin hb2
   rw [hend]
   exact HSub.put (HSub.put (HSub.put (HSub.none _) rfl) rfl) rfl
 ·
  iterate 5 refine ak _ ?_
  refine apf ?_
  refine am 16 ?_
  iterate 5 refine ak _ ?_
  refine apf ?_
  refine an ?_
  refine acf ?_
  first
  | have hov : q.2.over = true := by have h := hb3; simpa using h
  | skip
  refine AGo.exit ?_
  refine ⟨[], trivial, rfl, ?_⟩
  have hend : CS.runL cl s fuel l c = q.2 := by
    rw [← hI.2.1]
    first | exact runSL_end hge | exact runSL_fin hnf | exact runSL_over hov | exact runSL_end (ge_of_idx hb1) | exact runSL_fin hb2
  rw [hend]
  exact HSub.put (HSub.put (HSub.put (HSub.none _) rfl) rfl) rfl
set_option maxHeartbeats 1000000 in
set_option maxRecDepth 100000 in
theorem rstmt_step (C : Core) (s : ByteArray) (fuel : Int) (cl : CallC) (n : Nat) (w : Bool) (e : CS) (c : CM) (hfu : fuel ≤ 9223372036854775807) (hw0 : 0 ≤ C.words) (hw1 : C.words ≤ 1048576) (hok : e.ok C n w) (hk : e.Ok) (hc : c.good C.words.toNat) (hg : CallGood C.words.toNat cl) (hup : CallUp cl)
    (hE : ∀ x ∈ e.es, ∀ c, CM.good C.words.toNat c → ACall Try.prog 73 [.ptr 0 1 0 0, .agg x.row] (cheap hNew C s fuel c) (fun r h' => r = .int .u32 (x.ev cl s c).1 ∧ HSub (cheap hNone C s fuel (x.ev cl s c).2) h')) (hcall : e.kind = 6 → ACall Try.prog 71 [.ptr 0 1 0 0, .int .i64 e.slot, (.lst false (e.es.map CE.cells))] (cheap hNew C s fuel c) (fun r h' => r = .int .u32 (CE.evC cl s e.slot e.es [] c).1 ∧ HSub (cheap hNone C s fuel (CE.evC cl s e.slot e.es [] c).2) h')) (hT : ∀ c, CM.good C.words.toNat c → ACall Try.prog 33 [.ptr 0 1 0 0, (.lst false (e.thn.map CS.cells))] (cheap hNew C s fuel c) (fun r h' => r = .tup [] ∧ HSub (cheap hNone C s fuel (CS.runL cl s fuel e.thn c)) h')) (hL : ∀ c, CM.good C.words.toNat c → ACall Try.prog 33 [.ptr 0 1 0 0, (.lst false (e.els.map CS.cells))] (cheap hNew C s fuel c) (fun r h' => r = .tup [] ∧ HSub (cheap hNone C s fuel (CS.runL cl s fuel e.els c)) h')) (hTg : ∀ c, CM.good C.words.toNat c → (CS.runL cl s fuel e.thn c).good C.words.toNat) : ACall Try.prog 53 [.ptr 0 1 0 0, .agg e.row] (cheap hNew C s fuel c) (fun r h' => r = .tup [] ∧ HSub (cheap hNone C s fuel (e.run cl s fuel c)) h') := by
 refine ACall.of_body (n := 167) tok Try.func53 rfl rfl ?_
 refine asr ?_
 refine ax 3 (o_box (sz := 6) 3 rfl rfl rfl rfl (Nat.zero_lt_succ _) rfl) ?_
 refine an ?_
 refine AGo.seq ?_
 refine asr ?_
 refine af 8 tok ?_
 refine al 9 tok ?_
 refine an ?_
 refine AGo.block ?_
 refine asr ?_
 refine aqb ?_
 refine aa 10 ?_
 refine an ?_
 refine AGo.split 10 rfl (fun hb1 => ?_) (fun hb1 => ?_)
 ·
  refine act ?_
  have ho : e.kind = 6 := by simpa using hb1
  refine asr ?_
  refine am 12 ?_
  refine af 13 tok ?_
  refine al 14 tok ?_
  refine af 15 tok ?_
  refine al 16 tok ?_
  refine ax 17 (o_call (hc := (cheap hNew C s fuel c)) (hw := (cheap hNone C s fuel (CE.evC cl s e.slot e.es [] c).2)) [2, 1, 0] [(0, (.row false 11 [cCells C s fuel (CE.evC cl s e.slot e.es [] c).2])), (1, (.row true 1 (regCells ((CE.evC cl s e.slot e.es [] c).2).m.words))), (2, (.row true 1 (byteCells ((CE.evC cl s e.slot e.es [] c).2).m.out)))] rfl Try.func71 (by kernel_rfl) rfl rfl rfl ⟨⟨_, rfl, rfl⟩, ⟨_, rfl, rfl⟩, ⟨_, rfl, rfl⟩, trivial⟩ rfl (hres_cons rfl (hres_cons rfl (hres_cons rfl (hres_nil _)))) ⟨⟨_, rfl, rfl, rfl⟩, ⟨_, rfl, rfl, rfl⟩, ⟨_, rfl, rfl, rfl⟩, trivial⟩ rfl (hcall ho)) ?_
  refine an ?_
  refine AGo.ret ?_
  refine ⟨[], trivial, rfl, ?_⟩
  rw [run_k6 ho]
  exact HSub.put (HSub.put (HSub.put (HSub.none _) rfl) rfl) rfl
 ·
  refine acf ?_
  have n6 : e.kind ≠ 6 := by simpa using hb1
  refine asr ?_
  refine aqb ?_
  refine aa 18 ?_
  refine an ?_
  refine AGo.split 18 rfl (fun hb2 => ?_) (fun hb2 => ?_)
  ·
   refine act ?_
   have ho : e.kind = 5 := by simpa using hb2
   have hb5 := sok_5 hok ho
   obtain ⟨x, hx, hxm⟩ := get0 (l := e.es) (by omega)
   have hgx : (x.ev cl s c).2.good C.words.toNat ∧ isW (x.ev cl s c).1 := ev_good (s := s) hg x.parts x (Nat.le_refl _) (hk.esOk.1 x hxm) c hc
   have hv1 := hgx.2.1
   have hv2 := hgx.2.2
   refine AGo.seq ?_
   refine AGo.block ?_
   refine AGo.loopD (γ := Nat × CM) 4 (fun q => ⟨167, (eput (eput eNew 0 (.ptr 0 1 0 0)) 3 (.ptr 3 1 0 0)), (hput (hput (hput (hput (hFrom 4) 0 (.row false 11 [cCells C s fuel q.2])) 1 (.row true 1 (regCells (q.2).m.words))) 2 (.row true 1 (byteCells (q.2).m.out))) 3 (.row false 6 [e.row]))⟩) (fun q => WhI C.words.toNat fuel (CE.evH cl s e.es) (fun c => CS.runL cl s fuel e.thn c) (whileC fuel (CE.evH cl s e.es) (fun c => CS.runL cl s fuel e.thn c) (fuel.toNat + 1) c) q) (fun q => q.1) (fuel.toNat + 1, c) (Sub.mk' z34q z13q) ⟨hc, rfl, Nat.le_add_right _ _, Nat.succ_pos _⟩ (fun _ => hput_free (hput_free (hput_free (hput_free (fun b hb => hFrom_free hb) rfl) rfl) rfl) rfl) ?_
   intro q hI
   refine AGo.seq ?_
   refine asr ?_
   refine am 20 ?_
   refine aq 21 (q_nilCheck rfl rfl rfl) ?_
   refine af 22 tok ?_
   refine al 23 tok ?_
   refine aqb ?_
   refine am 25 ?_
   refine AOps.split 25 rfl (fun hb3 => ?_) (fun hb3 => ?_)
   ·
    refine am 26 ?_;refine aq 27 (q_nilCheck rfl rfl rfl) ?_;refine af 28 tok ?_;refine al 29 tok ?_;refine aq 30 (q_not rfl rfl) ?_;refine apt ?_;refine an ?_;refine AGo.split 31 rfl (fun hb4 => ?_) (fun hb4 => ?_)
    ·
     refine act ?_
     have hfin : (q.2.m.fin == 0) = true := by assumption
     have hov : q.2.over = false := by have h := hb4; simpa using h
     refine AGo.skip ?_;refine AGo.block ?_;refine AGo.seq ?_;refine asr ?_;refine am 32 ?_;refine ax 33 (o_call (hc := (cheap hNew C s fuel q.2)) (hw := (cheap hNone C s fuel (tickC fuel q.2).2)) [2, 1, 0] [(0, (.row false 11 [cCells C s fuel (tickC fuel q.2).2])), (1, (.row true 1 (regCells ((tickC fuel q.2).2).m.words))), (2, (.row true 1 (byteCells ((tickC fuel q.2).2).m.out)))] rfl Try.func72 (by kernel_rfl) rfl rfl rfl ⟨⟨_, rfl, rfl⟩, ⟨_, rfl, rfl⟩, ⟨_, rfl, rfl⟩, trivial⟩ rfl (hres_cons rfl (hres_cons rfl (hres_cons rfl (hres_nil _)))) ⟨⟨_, rfl, rfl, rfl⟩, ⟨_, rfl, rfl, rfl⟩, ⟨_, rfl, rfl, rfl⟩, trivial⟩ rfl (rtick_ok C s fuel q.2 hfu)) ?_;refine aq 34 (q_not rfl rfl) ?_;refine an ?_;refine AGo.split 34 rfl (fun hb5 => ?_) (fun hb5 => ?_)
     ·
      refine act ?_
      have ht : (tickC fuel q.2).1 = false := by simpa using hb5
      refine AGo.ret ?_;refine ⟨[], trivial, rfl, ?_⟩
      rw [run_k5 ho, show (whileC fuel (CE.evH cl s e.es) (fun c => CS.runL cl s fuel e.thn c) (fuel.toNat + 1) c) = _ from hI.notick hfin hov ht]
      exact HSub.put (HSub.put (HSub.put (HSub.none _) rfl) rfl) rfl
     ·
      refine acf ?_
      have ht : (tickC fuel q.2).1 = true := by simpa using hb5
      have hgq : (x.ev cl s (tickC fuel q.2).2).2.good C.words.toNat ∧ isW (x.ev cl s (tickC fuel q.2).2).1 := ev_good (s := s) hg x.parts x (Nat.le_refl _) (hk.esOk.1 x hxm) _ (tickC_good hI.good)
      refine AGo.skip ?_;refine asr ?_;refine am 35 ?_;refine af 36 tok ?_;refine al 37 tok ?_;refine aq 38 (q_index_lst tok rfl rfl rfl rfl rfl rfl (by decide) (idxE0 hx) rfl) ?_;refine al 39 tok ?_;refine ax 40 (o_call (hc := (cheap hNew C s fuel (tickC fuel q.2).2)) (hw := (cheap hNone C s fuel (x.ev cl s (tickC fuel q.2).2).2)) [2, 1, 0] [(0, (.row false 11 [cCells C s fuel (x.ev cl s (tickC fuel q.2).2).2])), (1, (.row true 1 (regCells ((x.ev cl s (tickC fuel q.2).2).2).m.words))), (2, (.row true 1 (byteCells ((x.ev cl s (tickC fuel q.2).2).2).m.out)))] rfl Try.func73 (by kernel_rfl) rfl rfl rfl ⟨⟨_, rfl, rfl⟩, ⟨_, rfl, rfl⟩, ⟨_, rfl, rfl⟩, trivial⟩ rfl (hres_cons rfl (hres_cons rfl (hres_cons rfl (hres_nil _)))) ⟨⟨_, rfl, rfl, rfl⟩, ⟨_, rfl, rfl, rfl⟩, ⟨_, rfl, rfl, rfl⟩, trivial⟩ rfl (hE x hxm _ (tickC_good hI.good))) ?_;refine aa 4 ?_;refine an ?_;refine AGo.seq ?_;refine asr ?_;refine am 41 ?_
      refine aq 42 (q_nilCheck rfl rfl rfl) ?_;refine af 43 tok ?_;refine al 44 tok ?_;refine aqb ?_;refine am 46 ?_;refine AOps.split 46 rfl (fun hb6 => ?_) (fun hb6 => ?_)
      ·
       iterate 2 refine ak _ ?_
       refine apt ?_;refine an ?_;refine act ?_;refine AGo.ret ?_;refine ⟨[], trivial, rfl, ?_⟩
       rw [run_k5 ho, show (whileC fuel (CE.evH cl s e.es) (fun c => CS.runL cl s fuel e.thn c) (fuel.toNat + 1) c) = _ from hI.lastE hx hfin hov ht (by first | exact .inl (by assumption) | exact .inr (by assumption))]
       exact HSub.put (HSub.put (HSub.put (HSub.none _) rfl) rfl) rfl
      ·
       refine am 47 ?_;refine aqb ?_;refine apf ?_;refine an ?_;refine AGo.split 49 rfl (fun hb7 => ?_) (fun hb7 => ?_)
       ·
        refine act ?_;refine AGo.ret ?_;refine ⟨[], trivial, rfl, ?_⟩
        rw [run_k5 ho, show (whileC fuel (CE.evH cl s e.es) (fun c => CS.runL cl s fuel e.thn c) (fuel.toNat + 1) c) = _ from hI.lastE hx hfin hov ht (by first | exact .inl (by assumption) | exact .inr (by assumption))]
        exact HSub.put (HSub.put (HSub.put (HSub.none _) rfl) rfl) rfl
       ·
        refine acf ?_
        have hf : ((x.ev cl s (tickC fuel q.2).2).2.m.fin != 0) = false := by assumption
        have hz : ((x.ev cl s (tickC fuel q.2).2).1 == 0) = false := hb7
        refine AGo.skip ?_;refine AGo.region ?_;refine am 50 ?_;refine af 51 tok ?_;refine al 52 tok ?_;refine ax 53 (o_call (hc := (cheap hNew C s fuel (x.ev cl s (tickC fuel q.2).2).2)) (hw := (cheap hNone C s fuel (CS.runL cl s fuel e.thn (x.ev cl s (tickC fuel q.2).2).2))) [2, 1, 0] [(0, (.row false 11 [cCells C s fuel (CS.runL cl s fuel e.thn (x.ev cl s (tickC fuel q.2).2).2)])), (1, (.row true 1 (regCells ((CS.runL cl s fuel e.thn (x.ev cl s (tickC fuel q.2).2).2)).m.words))), (2, (.row true 1 (byteCells ((CS.runL cl s fuel e.thn (x.ev cl s (tickC fuel q.2).2).2)).m.out)))] rfl Try.func33 (by kernel_rfl) rfl rfl rfl ⟨⟨_, rfl, rfl⟩, ⟨_, rfl, rfl⟩, ⟨_, rfl, rfl⟩, trivial⟩ rfl (hres_cons rfl (hres_cons rfl (hres_cons rfl (hres_nil _)))) ⟨⟨_, rfl, rfl, rfl⟩, ⟨_, rfl, rfl, rfl⟩, ⟨_, rfl, rfl, rfl⟩, trivial⟩ rfl (hT _ hgq.1)) ?_;refine an ?_
        have hnx := hI.next hfin hov ht (by rw [evH_eq hx]; exact hf) (by rw [evH_eq hx]; exact hz) (hTg _ (by rw [evH_eq hx]; exact hgq.1)) (fun c => evH_up hup _ c) (fun c => runL_up (fun st hs => run_up hup st.parts st (Nat.le_refl _)) c)
        rw [evH_eq hx] at hnx
        exact ⟨(q.1 - 1, CS.runL cl s fuel e.thn (x.ev cl s (tickC fuel q.2).2).2), Drop.mk' z22q z17q, hnx.1, hnx.2⟩
    ·
     refine acf ?_;refine AGo.exit ?_;refine AGo.ret ?_;refine ⟨[], trivial, rfl, ?_⟩
     rw [run_k5 ho, show (whileC fuel (CE.evH cl s e.es) (fun c => CS.runL cl s fuel e.thn c) (fuel.toNat + 1) c) = _ from hI.stop (by first | exact .inl ‹_› | exact .inr (by simpa using ‹(!q.2.over) = false›))]
     exact HSub.put (HSub.put (HSub.put (HSub.none _) rfl) rfl) rfl
   ·
    iterate 5 refine ak _ ?_
    refine apf ?_;refine an ?_;refine acf ?_;refine AGo.exit ?_;refine AGo.ret ?_;refine ⟨[], trivial, rfl, ?_⟩
    rw [run_k5 ho, show (whileC fuel (CE.evH cl s e.es) (fun c => CS.runL cl s fuel e.thn c) (fuel.toNat + 1) c) = _ from hI.stop (by first | exact .inl ‹_› | exact .inr (by simpa using ‹(!q.2.over) = false›))]
    exact HSub.put (HSub.put (HSub.put (HSub.none _) rfl) rfl) rfl
  ·
   refine acf ?_
   have n5 : e.kind ≠ 5 := by simpa using hb2
   refine asr ?_
   refine aqb ?_
   refine aa 54 ?_
   refine an ?_
   refine AGo.split 54 rfl (fun hb8 => ?_) (fun hb8 => ?_)
   ·
    refine act ?_
    have ho : e.kind = 7 := by simpa using hb8
    refine asr ?_;refine aa 5 ?_;refine an ?_;refine AGo.seq ?_;refine asr ?_;refine af 56 tok ?_;refine al 57 tok ?_;refine aq 58 (q_len tok rfl rfl rfl rfl rfl) ?_;refine aqb ?_;refine an ?_;refine AGo.split 59 rfl (fun hb9 => ?_) (fun hb9 => ?_)
    ·
     refine act ?_
     obtain ⟨x, hx, hxm⟩ := get0 (l := e.es) (by have h := hb9; simp at h; first | exact h | exact List.length_pos_iff.2 h)
     have hgx : (x.ev cl s c).2.good C.words.toNat ∧ isW (x.ev cl s c).1 := ev_good (s := s) hg x.parts x (Nat.le_refl _) (hk.esOk.1 x hxm) c hc
     have hv1 := hgx.2.1
     have hv2 := hgx.2.2
     refine AGo.region ?_;refine am 60 ?_;refine af 61 tok ?_;refine al 62 tok ?_;refine aq 63 (q_index_lst tok rfl rfl rfl rfl rfl rfl (by decide) (idxE0 hx) rfl) ?_;refine al 64 tok ?_;refine ax 65 (o_call (hc := (cheap hNew C s fuel c)) (hw := (cheap hNone C s fuel (x.ev cl s c).2)) [2, 1, 0] [(0, (.row false 11 [cCells C s fuel (x.ev cl s c).2])), (1, (.row true 1 (regCells ((x.ev cl s c).2).m.words))), (2, (.row true 1 (byteCells ((x.ev cl s c).2).m.out)))] rfl Try.func73 (by kernel_rfl) rfl rfl rfl ⟨⟨_, rfl, rfl⟩, ⟨_, rfl, rfl⟩, ⟨_, rfl, rfl⟩, trivial⟩ rfl (hres_cons rfl (hres_cons rfl (hres_cons rfl (hres_nil _)))) ⟨⟨_, rfl, rfl, rfl⟩, ⟨_, rfl, rfl, rfl⟩, ⟨_, rfl, rfl, rfl⟩, trivial⟩ rfl (hE x hxm c hc)) ?_;refine aa 5 ?_;refine an ?_;refine AGo.seq ?_;refine asr ?_;refine am 66 ?_;refine aq 67 (q_nilCheck rfl rfl rfl) ?_;refine af 68 tok ?_;refine al 69 tok ?_;refine aqb ?_;refine an ?_
     refine AGo.split 70 rfl (fun hb10 => ?_) (fun hb10 => ?_)
     ·
      refine act ?_
      have hf := hb10
      refine asr ?_;refine am 71 ?_;refine am 72 ?_;refine aq 73 (q_nilCheck rfl rfl rfl) ?_;refine af 74 tok ?_;refine AOps.w rfl rfl (o_store tok rfl rfl rfl rfl rfl rfl rfl rfl rfl (by decide) rfl z40q) ?_;refine an ?_;refine AGo.region ?_;refine am 75 ?_;refine aq 76 (q_nilCheck rfl rfl rfl) ?_;refine af 77 tok ?_;refine AOps.w rfl rfl (o_store tok rfl rfl rfl rfl rfl rfl rfl rfl rfl (by decide) rfl z40q) ?_;refine an ?_;refine AGo.ret ?_
      first
      | (refine ⟨[], trivial, rfl, ?_⟩; rw [run_7x ho hx hf]; exact HSub.put (HSub.put (HSub.put (HSub.none _) rfl) rfl) rfl)
      | (refine ⟨[], trivial, rfl, ?_⟩; rw [run_7n ho hn0 hf]; exact HSub.put (HSub.put (HSub.put (HSub.none _) rfl) rfl) rfl)
     ·
      refine acf ?_
      have hf := hb10
      refine AGo.skip ?_;refine AGo.ret ?_
      first
      | (refine ⟨[], trivial, rfl, ?_⟩; rw [run_7y ho hx hf]; exact HSub.put (HSub.put (HSub.put (HSub.none _) rfl) rfl) rfl)
      | (refine ⟨[], trivial, rfl, ?_⟩; rw [run_7m ho hn0 hf]; exact HSub.put (HSub.put (HSub.put (HSub.none _) rfl) rfl) rfl)
    ·
     refine acf ?_
     have hn0 : e.es.length = 0 := by have h := hb9; simp at h; simp [h]
     refine AGo.skip ?_;refine AGo.seq ?_;refine asr ?_;refine am 66 ?_;refine aq 67 (q_nilCheck rfl rfl rfl) ?_;refine af 68 tok ?_;refine al 69 tok ?_;refine aqb ?_;refine an ?_;refine AGo.split 70 rfl (fun hb11 => ?_) (fun hb11 => ?_)
     ·
      refine act ?_
      have hf := hb11
      refine asr ?_;refine am 71 ?_;refine am 72 ?_;refine aq 73 (q_nilCheck rfl rfl rfl) ?_;refine af 74 tok ?_;refine AOps.w rfl rfl (o_store tok rfl rfl rfl rfl rfl rfl rfl rfl rfl (by decide) rfl z40q) ?_;refine an ?_;refine AGo.region ?_;refine am 75 ?_;refine aq 76 (q_nilCheck rfl rfl rfl) ?_;refine af 77 tok ?_;refine AOps.w rfl rfl (o_store tok rfl rfl rfl rfl rfl rfl rfl rfl rfl (by decide) rfl z40q) ?_;refine an ?_;refine AGo.ret ?_
      first
      | (refine ⟨[], trivial, rfl, ?_⟩; rw [run_7x ho hx hf]; exact HSub.put (HSub.put (HSub.put (HSub.none _) rfl) rfl) rfl)
      | (refine ⟨[], trivial, rfl, ?_⟩; rw [run_7n ho hn0 hf]; exact HSub.put (HSub.put (HSub.put (HSub.none _) rfl) rfl) rfl)
     ·
      refine acf ?_
      have hf := hb11
      refine AGo.skip ?_;refine AGo.ret ?_
      first
      | (refine ⟨[], trivial, rfl, ?_⟩; rw [run_7y ho hx hf]; exact HSub.put (HSub.put (HSub.put (HSub.none _) rfl) rfl) rfl)
      | (refine ⟨[], trivial, rfl, ?_⟩; rw [run_7m ho hn0 hf]; exact HSub.put (HSub.put (HSub.put (HSub.none _) rfl) rfl) rfl)
   ·
    refine acf ?_
    have n7 : e.kind ≠ 7 := by simpa using hb8
    have hK := sok_K hok n5 n6 n7
    obtain ⟨x, hx, hxm⟩ := get0 (l := e.es) (by omega)
    have hgx : (x.ev cl s c).2.good C.words.toNat ∧ isW (x.ev cl s c).1 := ev_good (s := s) hg x.parts x (Nat.le_refl _) (hk.esOk.1 x hxm) c hc
    have hv1 := hgx.2.1
    have hv2 := hgx.2.2
    refine AGo.skip ?_;refine asr ?_;refine am 78 ?_;refine af 79 tok ?_;refine al 80 tok ?_;refine aq 81 (q_index_lst tok rfl rfl rfl rfl rfl rfl (by decide) (idxE0 hx) rfl) ?_;refine al 82 tok ?_;refine ax 83 (o_call (hc := (cheap hNew C s fuel c)) (hw := (cheap hNone C s fuel (x.ev cl s c).2)) [2, 1, 0] [(0, (.row false 11 [cCells C s fuel (x.ev cl s c).2])), (1, (.row true 1 (regCells ((x.ev cl s c).2).m.words))), (2, (.row true 1 (byteCells ((x.ev cl s c).2).m.out)))] rfl Try.func73 (by kernel_rfl) rfl rfl rfl ⟨⟨_, rfl, rfl⟩, ⟨_, rfl, rfl⟩, ⟨_, rfl, rfl⟩, trivial⟩ rfl (hres_cons rfl (hres_cons rfl (hres_cons rfl (hres_nil _)))) ⟨⟨_, rfl, rfl, rfl⟩, ⟨_, rfl, rfl, rfl⟩, ⟨_, rfl, rfl, rfl⟩, trivial⟩ rfl (hE x hxm c hc)) ?_;refine aa 6 ?_;refine an ?_;refine AGo.seq ?_;refine asr ?_;refine am 84 ?_;refine aq 85 (q_nilCheck rfl rfl rfl) ?_;refine af 86 tok ?_;refine al 87 tok ?_;refine aqb ?_
    refine an ?_;refine AGo.split 88 rfl (fun hb12 => ?_) (fun hb12 => ?_)
    ·
     refine act ?_
     have hf := hb12
     refine AGo.ret ?_;refine ⟨[], trivial, rfl, ?_⟩
     rw [run_Ka n5 n6 hx hf]
     exact HSub.put (HSub.put (HSub.put (HSub.none _) rfl) rfl) rfl
    ·
     refine acf ?_
     have hf := hb12
     refine AGo.skip ?_;refine asr ?_;refine af 89 tok ?_;refine al 90 tok ?_;refine an ?_;refine AGo.block ?_;refine asr ?_;refine aqb ?_;refine aa 101 ?_;refine an ?_;refine AGo.split 101 rfl (fun hb13 => ?_) (fun hb13 => ?_)
     ·
      refine act ?_
      have ho : e.kind = 1 := by simpa using hb13
      have hb1x := (sok_1 hok ho).2
      refine AGo.draw mix ?_;refine dm 103 ?_;refine dq 104 (q_nilCheck rfl rfl rfl) ?_;refine df 105 tok ?_;refine dl 106 tok ?_;refine df 107 tok ?_;refine dl 108 tok ?_;refine dm 109 ?_;refine dq 110 (q_index_ref tok rfl rfl rfl rfl rfl rfl rfl (by rw [regCells_len, hgx.1.m.len]) rfl hb1x.1 (by have := hb1x.2; omega)) ?_;refine DOps.w rfl rfl (o_store tok rfl rfl rfl rfl rfl rfl (by rw [regCells_len, hgx.1.m.len]) (rcell (by have := hb1x; have := hgx.1.m.len; omega)) rfl (by decide) rfl z40q) ?_;refine DOps.nil (by kernel_rfl) ?_;refine ⟨[], trivial, rfl, ?_⟩
      rw [run_1 ho hx hf]
      exact HSub.put (HSub.put (HSub.put (HSub.none _) rfl) z20q) rfl
     ·
      refine acf ?_;refine asr ?_;refine aqb ?_;refine aa 111 ?_;refine an ?_;refine AGo.split 111 rfl (fun hb14 => ?_) (fun hb14 => ?_)
      ·
       refine act ?_
       have ho : e.kind = 2 := by simpa using hb14
       have hb2 := sok_2 hok ho
       obtain ⟨y, hy, hym⟩ := get1 (l := e.es) (by omega)
       have hgy : (y.ev cl s (x.ev cl s c).2).2.good C.words.toNat ∧ isW (y.ev cl s (x.ev cl s c).2).1 := ev_good (s := s) hg y.parts y (Nat.le_refl _) (hk.esOk.1 y hym) _ hgx.1
       refine asr ?_;refine am 113 ?_;refine af 114 tok ?_;refine al 115 tok ?_;refine aq 116 (q_index_lst tok rfl rfl rfl rfl rfl rfl (by decide) (idxE1 hy) rfl) ?_;refine al 117 tok ?_;refine ax 118 (o_call (hc := (cheap hNew C s fuel (x.ev cl s c).2)) (hw := (cheap hNone C s fuel (y.ev cl s (x.ev cl s c).2).2)) [2, 1, 0] [(0, (.row false 11 [cCells C s fuel (y.ev cl s (x.ev cl s c).2).2])), (1, (.row true 1 (regCells ((y.ev cl s (x.ev cl s c).2).2).m.words))), (2, (.row true 1 (byteCells ((y.ev cl s (x.ev cl s c).2).2).m.out)))] rfl Try.func73 (by kernel_rfl) rfl rfl rfl ⟨⟨_, rfl, rfl⟩, ⟨_, rfl, rfl⟩, ⟨_, rfl, rfl⟩, trivial⟩ rfl (hres_cons rfl (hres_cons rfl (hres_cons rfl (hres_nil _)))) ⟨⟨_, rfl, rfl, rfl⟩, ⟨_, rfl, rfl, rfl⟩, ⟨_, rfl, rfl, rfl⟩, trivial⟩ rfl (hE y hym _ hgx.1)) ?_;refine aa 7 ?_;refine an ?_;refine AGo.seq ?_;refine asr ?_;refine am 119 ?_;refine aq 120 (q_nilCheck rfl rfl rfl) ?_
       refine af 121 tok ?_;refine al 122 tok ?_;refine aqb ?_;refine an ?_;refine AGo.split 123 rfl (fun hb15 => ?_) (fun hb15 => ?_)
       ·
        refine act ?_
        have hgf := hb15
        refine AGo.ret ?_;refine ⟨[], trivial, rfl, ?_⟩
        rw [run_2a ho hx hy hf hgf]
        exact HSub.put (HSub.put (HSub.put (HSub.none _) rfl) rfl) rfl
       ·
        refine acf ?_
        have hgf := hb15
        refine AGo.skip ?_;refine AGo.seq ?_;refine asr ?_;refine am 124 ?_;refine aq 125 (q_convTo tok rfl rfl rfl rfl rfl (r := (x.ev cl s c).1) (by rw [IntKind.wrap_u64]; omega)) ?_;refine af 126 tok ?_;refine al 127 tok ?_;refine aq 128 (q_convTo tok rfl rfl rfl rfl rfl (r := e.size) (by rw [IntKind.wrap_u64]; omega)) ?_;refine aqb ?_;refine an ?_;refine AGo.split 129 rfl (fun hb16 => ?_) (fun hb16 => ?_)
        ·
         refine act ?_
         have hz := hb16
         refine asr ?_;refine am 130 ?_;refine aq 131 (q_nilCheck rfl rfl rfl) ?_;refine af 132 tok ?_;refine AOps.w rfl rfl (o_store tok rfl rfl rfl rfl rfl rfl rfl rfl rfl (by decide) rfl z40q) ?_;refine an ?_;refine AGo.ret ?_;refine ⟨[], trivial, rfl, ?_⟩
         rw [run_2b ho hx hy hf hgf hz]
         exact HSub.put (HSub.put (HSub.put (HSub.none _) rfl) rfl) rfl
        ·
         refine acf ?_
         have hz := hb16
         have hz2 : (x.ev cl s c).1 < e.size := by simpa using hb16
         have hidx : 0 ≤ e.slot + (x.ev cl s c).1 ∧ e.slot + (x.ev cl s c).1 < C.words.toNat := by omega
         refine AGo.skip ?_;refine AGo.draw mix ?_;refine dm 133 ?_;refine dq 134 (q_nilCheck rfl rfl rfl) ?_;refine df 135 tok ?_;refine dl 136 tok ?_;refine df 137 tok ?_;refine dl 138 tok ?_;refine dm 139 ?_;refine dq 140 (q_convTo tok rfl rfl rfl rfl rfl (r := (x.ev cl s c).1) (by exact wrap_i64 (by omega) (by omega))) ?_;refine dq 141 (q_bin (r := .int .i64 (e.slot + (x.ev cl s c).1)) rfl rfl rfl z29q) ?_;refine dm 142 ?_;refine dq 143 (q_index_ref tok rfl rfl rfl rfl rfl rfl rfl (by rw [regCells_len, hgy.1.m.len]) rfl hidx.1 (by have := hidx.2; omega)) ?_;refine DOps.w rfl rfl (o_store tok rfl rfl rfl rfl rfl rfl (by rw [regCells_len, hgy.1.m.len]) (rcell (by have := hidx; have := hgy.1.m.len; omega)) rfl (by decide) rfl z40q) ?_;refine DOps.nil (by kernel_rfl) ?_;refine ⟨[], trivial, rfl, ?_⟩
         rw [run_2c ho hx hy hf hgf hz]
         exact HSub.put (HSub.put (HSub.put (HSub.none _) rfl) z20q) rfl
      ·
       refine acf ?_;refine asr ?_;refine aqb ?_;refine aa 144 ?_;refine an ?_;refine AGo.split 144 rfl (fun hb17 => ?_) (fun hb17 => ?_)
       ·
        refine act ?_
        have ho : e.kind = 3 := by simpa using hb17
        refine AGo.seq ?_;refine asr ?_;refine am 146 ?_;refine aq 147 (q_nilCheck rfl rfl rfl) ?_;refine af 148 tok ?_;refine al 149 tok ?_;refine aq 150 (q_len tok rfl rfl rfl rfl rfl) ?_;refine aqb ?_;refine an ?_;refine AGo.split 151 rfl (fun hb18 => ?_) (fun hb18 => ?_)
        ·
         refine act ?_
         have hou : (x.ev cl s c).2.m.out.length ≥ 65536 := by have h := hb18; simp [byteCells] at h; omega
         refine asr ?_;refine am 152 ?_;refine aq 153 (q_nilCheck rfl rfl rfl) ?_;refine af 154 tok ?_;refine AOps.w rfl rfl (o_store tok rfl rfl rfl rfl rfl rfl rfl rfl rfl (by decide) rfl z40q) ?_;refine an ?_;refine AGo.ret ?_;refine ⟨[], trivial, rfl, ?_⟩
         rw [run_3a ho hx hf hou]
         exact HSub.put (HSub.put (HSub.put (HSub.none _) rfl) rfl) rfl
        ·
         refine acf ?_
         have hou : ¬ (x.ev cl s c).2.m.out.length ≥ 65536 := by have h := hb18; simp [byteCells] at h; omega
         refine AGo.skip ?_;refine AGo.region ?_;refine am 155 ?_;refine am 156 ?_;refine aq 157 (q_nilCheck rfl rfl rfl) ?_;refine af 158 tok ?_;refine al 159 tok ?_;refine am 160 ?_;refine aqb ?_;refine aq 162 (q_convTo tok rfl rfl rfl rfl rfl (wrap_byteR hgx.2)) ?_;refine ax 163 (o_lit' tok rfl rfl rfl rfl rfl rfl (by decide) rfl rfl rfl rfl rfl rfl) ?_;refine ax 164 (o_append tok (n := (x.ev cl s c).2.m.out.length) (m := 1) rfl rfl rfl rfl rfl rfl rfl rfl rfl (by simp [byteCells]) rfl rfl (Nat.zero_lt_succ _) (.lst _ _) z41q (fun _ cs h => by simp [partVals] at h; subst h; rfl) rfl (by simp [byteCells, partVals]; have := hgx.1.m.out; omega) (by simp [byteCells, partVals]; simp only [maxLen]; have := hgx.1.m.out; omega)) ?_
         refine aq 165 (q_nilCheck rfl rfl rfl) ?_;refine af 166 tok ?_;refine AOps.w rfl rfl (o_store tok rfl rfl rfl rfl rfl rfl rfl rfl rfl (by decide) rfl z40q) ?_;refine an ?_;refine ⟨[], trivial, rfl, ?_⟩
         rw [run_3b ho hx hf hou]
         exact HSub.put (HSub.put (HSub.put (HSub.none _) (by first | rfl | exact congrArg (fun n => some (AObj.row false 11 [[.int .i64 C.words, .lst false (C.funcs.map CFn.cells), .ref 1 C.words.toNat 0 C.words.toNat, .str s, .int .i64 ((x.ev cl s c).2.m.read : Int), .ref 2 n 0 n, .int .i64 ((x.ev cl s c).2.m.steps : Int), .int .i64 fuel, .int .i64 (x.ev cl s c).2.m.fin, .bool (x.ev cl s c).2.over, .int .u32 (x.ev cl s c).2.val]])) (by simp [CM.put]))) rfl) (by first | rfl | exact congrArg (fun es => some (AObj.row true 1 es)) (by simp [byteCells, partVals, CM.put]; rfl))
       ·
        refine acf ?_
        have ho : e.kind = 4 := by have h := hb17; simp_all
        refine asr ?_;refine am 91 ?_;refine aqb ?_;refine an ?_;refine AGo.split 92 rfl (fun hb19 => ?_) (fun hb19 => ?_)
        ·
         refine act ?_
         have hz := hb19
         refine AGo.region ?_;refine am 93 ?_;refine af 94 tok ?_;refine al 95 tok ?_;refine ax 96 (o_call (hc := (cheap hNew C s fuel (x.ev cl s c).2)) (hw := (cheap hNone C s fuel (CS.runL cl s fuel e.thn (x.ev cl s c).2))) [2, 1, 0] [(0, (.row false 11 [cCells C s fuel (CS.runL cl s fuel e.thn (x.ev cl s c).2)])), (1, (.row true 1 (regCells ((CS.runL cl s fuel e.thn (x.ev cl s c).2)).m.words))), (2, (.row true 1 (byteCells ((CS.runL cl s fuel e.thn (x.ev cl s c).2)).m.out)))] rfl Try.func33 (by kernel_rfl) rfl rfl rfl ⟨⟨_, rfl, rfl⟩, ⟨_, rfl, rfl⟩, ⟨_, rfl, rfl⟩, trivial⟩ rfl (hres_cons rfl (hres_cons rfl (hres_cons rfl (hres_nil _)))) ⟨⟨_, rfl, rfl, rfl⟩, ⟨_, rfl, rfl, rfl⟩, ⟨_, rfl, rfl, rfl⟩, trivial⟩ rfl (hT _ hgx.1)) ?_;refine an ?_;refine ⟨[], trivial, rfl, ?_⟩
         rw [run_4a ho hx hf hz]
         exact HSub.put (HSub.put (HSub.put (HSub.none _) rfl) rfl) rfl
        ·
         refine acf ?_
         have hz := hb19
         refine AGo.region ?_;refine am 97 ?_;refine af 98 tok ?_;refine al 99 tok ?_;refine ax 100 (o_call (hc := (cheap hNew C s fuel (x.ev cl s c).2)) (hw := (cheap hNone C s fuel (CS.runL cl s fuel e.els (x.ev cl s c).2))) [2, 1, 0] [(0, (.row false 11 [cCells C s fuel (CS.runL cl s fuel e.els (x.ev cl s c).2)])), (1, (.row true 1 (regCells ((CS.runL cl s fuel e.els (x.ev cl s c).2)).m.words))), (2, (.row true 1 (byteCells ((CS.runL cl s fuel e.els (x.ev cl s c).2)).m.out)))] rfl Try.func33 (by kernel_rfl) rfl rfl rfl ⟨⟨_, rfl, rfl⟩, ⟨_, rfl, rfl⟩, ⟨_, rfl, rfl⟩, trivial⟩ rfl (hres_cons rfl (hres_cons rfl (hres_cons rfl (hres_nil _)))) ⟨⟨_, rfl, rfl, rfl⟩, ⟨_, rfl, rfl, rfl⟩, ⟨_, rfl, rfl, rfl⟩, trivial⟩ rfl (hL _ hgx.1)) ?_;refine an ?_;refine ⟨[], trivial, rfl, ?_⟩
         rw [run_4b ho hx hf hz]
         exact HSub.put (HSub.put (HSub.put (HSub.none _) rfl) rfl) rfl
theorem rexpr_ok (C : Core) (s : ByteArray) (fuel : Int) (hfu : fuel ≤ 9223372036854775807) (hs : s.size ≤ 9223372036854775807) (hr : CoreR C) (hC : C.Ok) (cl : CallC) (n : Nat) (hg : CallGood C.words.toNat cl) (hcall : ∀ (g : Int) (l : List CE), 0 ≤ g → g < n → (∃ fn, C.funcs[g.toNat]? = some fn ∧ fn.params = l.length ∧ l.length ≤ 6) → (∀ x ∈ l, x.Ok) → (∀ x ∈ l, ∀ c, CM.good C.words.toNat c → ACall Try.prog 73 [.ptr 0 1 0 0, .agg x.row] (cheap hNew C s fuel c) (fun r h' => r = .int .u32 (x.ev cl s c).1 ∧ HSub (cheap hNone C s fuel (x.ev cl s c).2) h')) → ∀ c, CM.good C.words.toNat c → ACall Try.prog 71 [.ptr 0 1 0 0, .int .i64 g, (.lst false (l.map CE.cells))] (cheap hNew C s fuel c) (fun r h' => r = .int .u32 (CE.evC cl s g l [] c).1 ∧ HSub (cheap hNone C s fuel (CE.evC cl s g l [] c).2) h')) :
    ∀ (m : Nat) (e : CE), e.parts ≤ m → e.ok C n → e.Ok → ∀ c, CM.good C.words.toNat c → ACall Try.prog 73 [.ptr 0 1 0 0, .agg e.row] (cheap hNew C s fuel c) (fun r h' => r = .int .u32 (e.ev cl s c).1 ∧ HSub (cheap hNone C s fuel (e.ev cl s c).2) h')
  | 0, e, hm, _, _, _, _ => absurd hm (by cases e; rw [CE.parts]; omega)
  | m + 1, e, hm, ho, hk, c, hc => by
    have ih : ∀ x ∈ e.kids, ∀ c, CM.good C.words.toNat c → ACall Try.prog 73 [.ptr 0 1 0 0, .agg x.row] (cheap hNew C s fuel c) (fun r h' => r = .int .u32 (x.ev cl s c).1 ∧ HSub (cheap hNone C s fuel (x.ev cl s c).2) h') := fun x hx c hc => rexpr_ok C s fuel hfu hs hr hC cl n hg hcall m x (by have := parts_mem hx; have := parts_kids e; omega) (eok_mem ho hx) (hk.kidsOk.1 x hx) c hc
    refine rexpr_step C s fuel cl n e c hr.w0 (by have := hr.w1; omega) hs ho hk hc hg ih fun h4 => ?_
    obtain ⟨g0, g1, fn, g2, _, g3, g4⟩ := eok_k4 ho h4
    exact hcall e.slot e.kids g0 g1 ⟨fn, g2, g3, g4⟩ hk.kidsOk.1 ih c hc
theorem rstmts_ok (C : Core) (s : ByteArray) (fuel : Int) (hfu : fuel ≤ 9223372036854775807) (hs : s.size ≤ 9223372036854775807) (hr : CoreR C) (hC : C.Ok) (cl : CallC) (n : Nat) (w : Bool) (hg : CallGood C.words.toNat cl) (hup : CallUp cl) (hcall : ∀ (g : Int) (l : List CE), 0 ≤ g → g < n → (∃ fn, C.funcs[g.toNat]? = some fn ∧ fn.params = l.length ∧ l.length ≤ 6) → (∀ x ∈ l, x.Ok) → (∀ x ∈ l, ∀ c, CM.good C.words.toNat c → ACall Try.prog 73 [.ptr 0 1 0 0, .agg x.row] (cheap hNew C s fuel c) (fun r h' => r = .int .u32 (x.ev cl s c).1 ∧ HSub (cheap hNone C s fuel (x.ev cl s c).2) h')) → ∀ c, CM.good C.words.toNat c → ACall Try.prog 71 [.ptr 0 1 0 0, .int .i64 g, (.lst false (l.map CE.cells))] (cheap hNew C s fuel c) (fun r h' => r = .int .u32 (CE.evC cl s g l [] c).1 ∧ HSub (cheap hNone C s fuel (CE.evC cl s g l [] c).2) h')) :
    ∀ (m : Nat) (l : List CS), CS.partsL l ≤ m → CS.okL C n w l → (∀ x ∈ l, x.Ok) → l.length * 96 ≤ reachBytes → ∀ c, CM.good C.words.toNat c → ACall Try.prog 33 [.ptr 0 1 0 0, (.lst false (l.map CS.cells))] (cheap hNew C s fuel c) (fun r h' => r = .tup [] ∧ HSub (cheap hNone C s fuel (CS.runL cl s fuel l c)) h')
  | 0, l, hm, ho, hk, hl, c, hc => rstmts_step C s fuel cl l c (len96 hl) hc (fun x hx => absurd (sparts_mem hx) (by have := sparts_es x; omega)) fun x hx => absurd (sparts_mem hx) (by have := sparts_es x; omega)
  | m + 1, l, hm, ho, hk, hl, c, hc => by
    refine rstmts_step C s fuel cl l c (len96 hl) hc (fun x hx c hc => ?_) fun x hx => run_good hg x.parts x (Nat.le_refl _) (hk x hx)
    have hxo := sokL_mem ho hx
    have hxk := hk x hx
    have hp := sparts_mem hx
    have hp2 := sparts_es x
    have hE : ∀ y ∈ x.es, ∀ c, CM.good C.words.toNat c → ACall Try.prog 73 [.ptr 0 1 0 0, .agg y.row] (cheap hNew C s fuel c) (fun r h' => r = .int .u32 (y.ev cl s c).1 ∧ HSub (cheap hNone C s fuel (y.ev cl s c).2) h') := fun y hy c hc => rexpr_ok C s fuel hfu hs hr hC cl n hg hcall y.parts y (Nat.le_refl _) (sok_es hxo hy) (hxk.esOk.1 y hy) c hc
    refine rstmt_step C s fuel cl n w x c hfu hr.w0 (by have := hr.w1; omega) hxo hxk hc hg hup hE (fun h6 => ?_) (fun c hc => rstmts_ok C s fuel hfu hs hr hC cl n w hg hup hcall m x.thn (by omega) (sok_thn hxo) hxk.thnOk.1 hxk.thnOk.2 c hc) (fun c hc => rstmts_ok C s fuel hfu hs hr hC cl n w hg hup hcall m x.els (by omega) (sok_els hxo) hxk.elsOk.1 hxk.elsOk.2 c hc)
      (fun c hc => runL_good (fun st hst => run_good hg st.parts st (Nat.le_refl _) (hxk.thnOk.1 st hst)) hc)
    obtain ⟨g0, g1, fn, g2, _, g3, g4⟩ := sok_6 hxo h6
    exact hcall x.slot x.es g0 g1 ⟨fn, g2, g3, g4⟩ hxk.esOk.1 hE c hc
theorem rlevel (C : Core) (s : ByteArray) (fuel : Int) (hfu : fuel ≤ 9223372036854775807) (hs : s.size ≤ 9223372036854775807) (hr : CoreR C) (hC : C.Ok) (hok : CoreOk C) : ∀ (n i : Nat) (w : Bool) (l : List CS), i ≤ n → CS.okL C i w l → (∀ x ∈ l, x.Ok) → l.length * 96 ≤ reachBytes → ∀ c, CM.good C.words.toNat c → ACall Try.prog 33 [.ptr 0 1 0 0, (.lst false (l.map CS.cells))] (cheap hNew C s fuel c) (fun r h' => r = .tup [] ∧ HSub (cheap hNone C s fuel (CS.runL (cfun C s fuel n) s fuel l c)) h')
  | 0, i, w, l, hi, ho, hk, hl, c, hc => rstmts_ok C s fuel hfu hs hr hC _ i w (cfun_good hC 0) (cfun_up 0) (fun g l g0 g1 => absurd g1 (by omega)) _ l (Nat.le_refl _) ho hk hl c hc
  | n + 1, i, w, l, hi, ho, hk, hl, c, hc => by
    refine rstmts_ok C s fuel hfu hs hr hC _ i w (cfun_good hC (n + 1)) (cfun_up (n + 1)) (fun g l g0 g1 hfn hlk hE c hc => ?_) _ l (Nat.le_refl _) ho hk hl c hc
    obtain ⟨fn, e1, e2, e3⟩ := hfn
    have hm := List.mem_of_getElem? e1
    obtain ⟨b1, b2, b3, b4, b5⟩ := hr.fn fn hm
    have hbo := (hok.fn g.toNat fn e1).body
    exact rcall_step C s fuel _ n g fn l c rfl hfu hr.w0 (by have := hr.w1; omega) g0 e1 ⟨by omega, b4, b5⟩ (by omega) e3 hlk hc (cfun_good hC (n + 1)) hE
      (fun c hc => rlevel C s fuel hfu hs hr hC hok n g.toNat fn.word fn.body (by omega) hbo (hC.funcs fn hm).body (hC.funcs fn hm).len c hc)
set_option maxRecDepth 100000 in
theorem run19_ok (C : Core) (s : ByteArray) (fuel : Int) (hfu : fuel ≤ 9223372036854775807) (hs : s.size ≤ 9223372036854775807) (hR : C.right = true) (hC : C.Ok) : APure Try.prog 16 [.agg C.cells, .str s, .int .i64 fuel] (fun r => r = .agg (resCells (crun C s fuel))) := by
 have hr := right_core hR
 have hok := core_ok hC hR
 obtain ⟨g, hgl⟩ := get_of_lt (l := C.funcs) (k := C.funcs.length - 1) (by have := hr.n0; omega)
 have hn0 := hr.n0
 have hn1 := hr.n1
 have hgm := List.mem_of_getElem? hgl
 have hbo : CS.okL C (C.funcs.length - 1) g.word g.body := (hok.fn _ g hgl).body
 have c0_good : (c0 C).good C.words.toNat := ⟨⟨by simp [c0], allR_rep _, by simp [c0]⟩, isW_zero⟩
 refine APure.of_body (n := 54) tok Try.func16 rfl rfl ?_
 refine asr ?_
 refine ax 3 (o_box (sz := 2) 3 rfl rfl rfl rfl (Nat.zero_lt_succ _) rfl) ?_
 refine ax 6 (o_alloc tok 4 rfl rfl rfl rfl (Nat.zero_lt_succ _) rfl) ?_
 refine an ?_
 refine AGo.seq ?_
 refine asr ?_
 refine af 8 tok ?_
 refine al 9 tok ?_
 refine aq 10 (q_len tok rfl rfl rfl rfl rfl) ?_
 refine aqb ?_
 refine an ?_
 refine AGo.split 11 rfl (fun hb1 => ?_) (fun hb1 => ?_)
 ·
  refine act ?_
  refine asr ?_
  refine aq 12 (q_build tok rfl rfl rfl rfl rfl (by decide) rfl rfl rfl) ?_
  refine AOps.w rfl rfl (o_store tok rfl rfl rfl rfl rfl rfl rfl rfl rfl (by decide) rfl z40q) ?_
  refine an ?_
  refine AGo.ret ?_
  exact absurd hn0 (by have h := hb1; simp at h; simp [h])
 ·
  refine acf ?_
  refine AGo.skip ?_
  refine AGo.seq ?_
  refine AGo.draw mix ?_
  refine dl 13 tok ?_
  refine df 14 tok ?_
  refine dl 15 tok ?_
  refine dx 16 (o_makeSlice tok (n := C.words.toNat) (m := C.words.toNat) 1 true rfl rfl rfl (by have := hr.w0; omega) (by have := hr.w0; omega) rfl rfl rfl rfl rfl (Nat.zero_lt_succ _) rfl (Nat.le_refl _) (by show 4 * C.words.toNat ≤ _; have := hr.w1; omega) (by simp only [maxLen]; have := hr.w1; omega)) ?_
  refine dm 17 ?_
  refine dm 18 ?_
  refine dq 19 (q_build tok rfl rfl rfl rfl rfl (by decide) rfl rfl rfl) ?_
  refine dx 20 (o_box (sz := 11) 0 rfl rfl rfl rfl (Nat.zero_lt_succ _) rfl) ?_
  refine da 7 ?_
  refine DOps.nil (by kernel_rfl) ?_
  refine AGo.seq ?_
  refine AGo.ghost (.dryCell 0 0 5 2 1 true rfl rfl rfl rfl rfl (by decide)) ?_
  refine AGo.sub (s' := ⟨54, (eput (eput (eput (eput (eput eNew 1 (.str s)) 2 (.int .i64 fuel)) 3 (.ptr 3 1 0 0)) 6 (.ptr 4 1 0 0)) 7 (.ptr 0 1 0 0)), (hput (hput (hput (hput (hput hNone 0 (.row false 11 [cCells C s fuel (c0 C)])) 1 (.row true 1 (regCells ((c0 C)).m.words))) 2 (.row true 1 (byteCells ((c0 C)).m.out))) 3 (.row false 2 [C.cells])) 4 (.row false 3 [[.int .i64 0, .str .empty, .int .i64 0]]))⟩) (Sub.mk' z34q z6q) ?_
  refine AGo.region ?_
  refine am 21 ?_
  refine af 22 tok ?_
  refine al 23 tok ?_
  refine af 24 tok ?_
  refine al 25 tok ?_
  refine aq 26 (q_len tok rfl rfl rfl rfl rfl) ?_
  refine aq 27 (q_bin (r := .int .i64 ((C.funcs.length : Int) - 1)) rfl rfl rfl (by simp only [evalBin, evalInt, isShift, cond_false, if_true]; rw [List.length_map, wrap_i64 (by omega) (by omega)])) ?_
  refine aq 28 (q_index_lst tok rfl rfl rfl rfl rfl rfl (by omega) (idx_map2 (by rw [show ((C.funcs.length : Int) - 1).toNat = C.funcs.length - 1 by omega]; exact hgl)) rfl) ?_
  refine af 29 tok ?_
  refine al 30 tok ?_
  refine ax 31 (o_call (hc := (cheap hNew C s fuel (c0 C))) (hw := (cheap hNone C s fuel (CS.runL (cfun C s fuel (C.funcs.length - 1)) s fuel g.body (c0 C)))) [2, 1, 0] [(0, (.row false 11 [cCells C s fuel (CS.runL (cfun C s fuel (C.funcs.length - 1)) s fuel g.body (c0 C))])), (1, (.row true 1 (regCells ((CS.runL (cfun C s fuel (C.funcs.length - 1)) s fuel g.body (c0 C))).m.words))), (2, (.row true 1 (byteCells ((CS.runL (cfun C s fuel (C.funcs.length - 1)) s fuel g.body (c0 C))).m.out)))] rfl Try.func33 (by kernel_rfl) rfl rfl rfl ⟨⟨_, rfl, rfl⟩, ⟨_, rfl, rfl⟩, ⟨_, rfl, rfl⟩, trivial⟩ rfl (hres_cons rfl (hres_cons rfl (hres_cons rfl (hres_nil _)))) ⟨⟨_, rfl, rfl, rfl⟩, ⟨_, rfl, rfl, rfl⟩, ⟨_, rfl, rfl, rfl⟩, trivial⟩ rfl (rlevel C s fuel hfu hs hr hC hok (C.funcs.length - 1) (C.funcs.length - 1) g.word g.body (Nat.le_refl _) hbo (hC.funcs g hgm).body (hC.funcs g hgm).len (c0 C) c0_good)) ?_
  refine an ?_
  refine AGo.seq ?_
  refine AGo.join (γ := CM) (fun m => ⟨54, (eput (eput (eput (eput (eput eNew 1 (.str s)) 2 (.int .i64 fuel)) 3 (.ptr 3 1 0 0)) 6 (.ptr 4 1 0 0)) 7 (.ptr 0 1 0 0)), (hput (hput (hput (hput (hput hNone 0 (.row false 11 [cCells C s fuel m])) 1 (.row true 1 (regCells (m).m.words))) 2 (.row true 1 (byteCells (m).m.out))) 3 (.row false 2 [C.cells])) 4 (.row false 3 [[.int .i64 0, .str .empty, .int .i64 0]]))⟩) (fun m => m.m = crun C s fuel) ?_ ?_
  ·
   refine asr ?_
   refine am 32 ?_
   refine aq 33 (q_nilCheck rfl rfl rfl) ?_
   refine af 34 tok ?_
   refine al 35 tok ?_
   refine aqb ?_
   refine an ?_
   refine AGo.split 36 rfl (fun hb2 => ?_) (fun hb2 => ?_)
   ·
    refine act ?_;refine AGo.region ?_;refine am 37 ?_;refine aq 38 (q_nilCheck rfl rfl rfl) ?_;refine af 39 tok ?_;refine AOps.w rfl rfl (o_store tok rfl rfl rfl rfl rfl rfl rfl rfl rfl (by decide) rfl z40q) ?_;refine an ?_;exact ⟨((CS.runL (cfun C s fuel (C.funcs.length - 1)) s fuel g.body (c0 C)).put { (CS.runL (cfun C s fuel (C.funcs.length - 1)) s fuel g.body (c0 C)).m with fin := 1 }), Sub.mk' z34q z13q, (crun_yes hgl (by assumption)).symm⟩
   ·
    refine acf ?_;refine AGo.skip ?_;exact ⟨(CS.runL (cfun C s fuel (C.funcs.length - 1)) s fuel g.body (c0 C)), Sub.mk' z34q z13q, (crun_no hgl (by assumption)).symm⟩
  intro m hm
  refine AGo.seq ?_
  refine AGo.ghost (.freezeCell 0 0 5 2 rfl rfl rfl rfl (by simp [byteCells]) (by decide)) ?_
  refine AGo.draw mix ?_
  refine dm 40 ?_
  refine dq 41 (q_nilCheck rfl rfl rfl) ?_
  refine df 42 tok ?_
  refine dl 43 tok ?_
  refine dm 44 ?_
  refine dq 45 (q_nilCheck rfl rfl rfl) ?_
  refine df 46 tok ?_
  refine dl 47 tok ?_
  refine dq 48 (q_bytesStr (l := m.m.out) tok rfl (by show some (AV.lst false _) = _; rw [List.drop_zero, List.take_of_length_le (by simp [byteCells])]) rfl rfl rfl rfl rfl rfl) ?_
  refine dm 49 ?_
  refine dq 50 (q_nilCheck rfl rfl rfl) ?_
  refine df 51 tok ?_
  refine dl 52 tok ?_
  refine dq 53 (q_build tok rfl rfl rfl rfl rfl (by decide) rfl rfl rfl) ?_
  refine DOps.w rfl rfl (o_store tok rfl rfl rfl rfl rfl rfl rfl rfl rfl (by decide) rfl z40q) ?_
  refine DOps.nil (by kernel_rfl) ?_
  refine AGo.ret ?_
  refine ⟨[_], ⟨⟨_, _, _, _, rfl, rfl, .ptr _ _ _ _ _ _ _ _ rfl rfl rfl, rfl⟩, trivial⟩, ?_, rfl⟩
  rw [← hm]
  rfl
set_option maxRecDepth 100000 in
theorem few25_ok (C : Core) (hC : C.Ok) : APure Try.prog 13 [.agg C.cells] (fun r => r = .bool C.little) := by
 refine APure.of_body (n := 10) tok Try.func13 rfl rfl ?_
 refine asr ?_
 refine ax 1 (o_box (sz := 2) 0 rfl rfl rfl rfl (Nat.zero_lt_succ _) rfl) ?_
 refine aa 2 ?_
 refine an ?_
 refine asr ?_
 refine al 3 tok ?_
 refine ax 4 (o_pure rfl Try.func27 (by kernel_rfl) rfl rfl rfl (fair19_ok C 300 hC (by decide) (by decide))) ?_
 refine am 5 ?_
 refine AOps.split 5 rfl (fun hb1 => ?_) (fun hb1 => ?_)
 ·
  refine af 6 tok ?_
  refine al 7 tok ?_
  refine aqb ?_
  refine apt ?_
  refine aa 2 ?_
  refine an ?_
  refine AGo.ret ?_
  refine ⟨[_], ⟨rfl, trivial⟩, ?_, rfl⟩
  show AV.bool _ = AV.bool _
  congr 1
  unfold Core.little
  first | (simp_all; done) | (simp_all; omega)
 ·
  iterate 3 refine ak _ ?_
  refine apf ?_
  refine aa 2 ?_
  refine an ?_
  refine AGo.ret ?_
  refine ⟨[_], ⟨rfl, trivial⟩, ?_, rfl⟩
  show AV.bool _ = AV.bool _
  congr 1
  unfold Core.little
  first | (simp_all; done) | (simp_all; omega)
set_option maxRecDepth 100000 in
theorem ends10_ok (x y : Mach) : APure Try.prog 17 [.agg (resCells x), .agg (resCells y)] (fun r => r = .bool (x.fin == y.fin && (x.out == y.out))) := by
 refine APure.of_body (n := 17) tok Try.func17 rfl rfl ?_
 refine asr ?_
 refine ax 2 (o_box (sz := 3) 0 rfl rfl rfl rfl (Nat.zero_lt_succ _) rfl) ?_
 refine ax 3 (o_box (sz := 3) 1 rfl rfl rfl rfl (Nat.zero_lt_succ _) rfl) ?_
 refine aa 4 ?_
 refine an ?_
 refine asr ?_
 refine af 5 tok ?_
 refine al 6 tok ?_
 refine af 7 tok ?_
 refine al 8 tok ?_
 refine aqb ?_
 refine am 10 ?_
 refine AOps.split 10 rfl (fun hb1 => ?_) (fun hb1 => ?_)
 ·
  refine af 11 tok ?_
  refine al 12 tok ?_
  refine af 13 tok ?_
  refine al 14 tok ?_
  refine aqb ?_
  refine apt ?_
  refine aa 4 ?_
  refine an ?_
  refine AGo.ret ?_
  refine ⟨[_], ⟨rfl, trivial⟩, ?_, rfl⟩
  show AV.bool _ = AV.bool _
  congr 1
  simp_all [bytes_eqB]
 ·
  iterate 5 refine ak _ ?_
  refine apf ?_
  refine aa 4 ?_
  refine an ?_
  refine AGo.ret ?_
  refine ⟨[_], ⟨rfl, trivial⟩, ?_, rfl⟩
  show AV.bool _ = AV.bool _
  congr 1
  simp_all [bytes_eqB]
set_option maxRecDepth 100000 in
theorem sizeE_step (l : List CE) (hlen : l.length ≤ maxLen) (hp : CE.partsL l ≤ 1000000) (hrec : ∀ x ∈ l, APure Try.prog 75 [(.lst false (x.kids.map CE.cells))] (fun r => r = .int .i64 (CE.partsL x.kids : Int))) : APure Try.prog 75 [(.lst false (l.map CE.cells))] (fun r => r = .int .i64 (CE.partsL l : Int)) := by
 refine APure.of_body (n := 22) tok Try.func75 rfl rfl ?_
 refine asr ?_
 refine aa 2 ?_
 refine an ?_
 refine asr ?_
 refine am 5 ?_
 refine aq 6 (q_len tok rfl rfl rfl rfl rfl) ?_
 refine aa 3 ?_
 refine an ?_
 refine AGo.seq ?_
 refine asr ?_
 refine aa 4 ?_
 refine an ?_
 refine AGo.block ?_
 refine AGo.loopD (γ := Nat) 0 (fun k => ⟨22, (eput (eput (eput eNew 0 (.lst false (l.map CE.cells))) 3 (.int .i64 ((CE.partsL (l.take k) + (l.length - k) : Nat) : Int))) 4 (.int .i64 (k : Int))), (hFrom 0)⟩) (fun k => k ≤ l.length) (fun k => l.length - k) 0 (Sub.mk' (by repeat (first | exact ESub.new _ | refine ESub.put ?_ (by first | rfl | exact congrArg (fun n => some (AV.int .i64 n)) (by simp [CE.partsL])))) z13q) (Nat.zero_le _) (fun _ => fun b hb => hFrom_free hb) ?_
 intro k hk
 refine AGo.seq ?_
 refine asr ?_
 refine am 7 ?_
 refine am 8 ?_
 refine aq 9 (q_len tok rfl rfl rfl rfl rfl) ?_
 refine aqb ?_
 refine an ?_
 refine AGo.split 10 rfl (fun hb1 => ?_) (fun hb1 => ?_)
 ·
  refine act ?_
  have hkl : k < l.length := lt_of_idx hb1
  obtain ⟨x, hx⟩ := get_of_lt hkl
  have htk := partsL_take hx
  have hle := partsL_le (l := l) (k + 1)
  have hpk := parts_kids x
  have hln := partsL_len l
  have hrest := partsL_app (l.drop (k + 1)) (l.take (k + 1))
  rw [List.take_append_drop] at hrest
  have hdl := partsL_len (l.drop (k + 1))
  rw [List.length_drop] at hdl
  refine AGo.skip ?_
  refine AGo.seq ?_
  refine AGo.block ?_
  refine AGo.region ?_
  refine am 13 ?_
  refine am 14 ?_
  refine am 15 ?_
  refine aq 16 (q_index_lst tok rfl rfl rfl rfl rfl rfl (Int.natCast_nonneg _) (idxE hx) rfl) ?_
  refine af 17 tok ?_
  refine al 18 tok ?_
  refine ax 19 (o_pure rfl Try.func75 (by kernel_rfl) rfl rfl rfl (hrec x (List.mem_of_getElem? hx))) ?_
  refine aq 20 (q_bin (r := .int .i64 (((CE.partsL (l.take k) + (l.length - k) + CE.partsL x.kids : Nat) : Int))) rfl rfl rfl z25q) ?_
  refine aa 3 ?_
  refine an ?_
  refine AGo.region ?_
  refine am 11 ?_
  refine aq 12 (q_inc rfl rfl hkl hlen) ?_
  refine aa 4 ?_
  refine an ?_
  exact ⟨k+1, Drop.mk' (by repeat (first | exact EDrop.new _ _ | refine EDrop.put ?_ (by first | rfl | exact congrArg (fun n => some (AV.int .i64 n)) (by rw [htk, parts_kids]; omega)) z35q)) z17q, hkl, by omega⟩
 ·
  refine acf ?_
  have hke : k = l.length := Nat.le_antisymm hk (ge_of_idx hb1)
  refine AGo.exit ?_
  refine asr ?_
  refine am 21 ?_
  refine aa 2 ?_
  refine an ?_
  refine AGo.ret ?_
  refine ⟨[_], ⟨rfl, trivial⟩, ?_, rfl⟩
  subst hke
  rw [List.take_length, Nat.sub_self]; rfl
theorem sizeE_ok : ∀ (n : Nat) (l : List CE), CE.partsL l ≤ n → (∀ e ∈ l, e.Ok) → l.length * 64 ≤ reachBytes → CE.partsL l ≤ 1000000 → APure Try.prog 75 [(.lst false (l.map CE.cells))] (fun r => r = .int .i64 (CE.partsL l : Int))
  | 0, l, hn, hk, hl, h1 => sizeE_step l (len64 hl) h1 fun x hx => absurd (parts_mem hx) (by have := parts_kids x; omega)
  | n + 1, l, hn, hk, hl, h1 => sizeE_step l (len64 hl) h1 fun x hx => sizeE_ok n x.kids (by have := parts_mem hx; have := parts_kids x; omega) (hk x hx).kidsOk.1 (hk x hx).kidsOk.2 (by have := parts_mem hx; have := parts_kids x; omega)
set_option maxRecDepth 100000 in
theorem sizeS_step (l : List CS) (hk : ∀ e ∈ l, e.Ok) (hlen : l.length ≤ maxLen) (hp : CS.partsL l ≤ 1000000) (hrec : ∀ x ∈ l, APure Try.prog 56 [(.lst false (x.thn.map CS.cells))] (fun r => r = .int .i64 (CS.partsL x.thn : Int)) ∧ APure Try.prog 56 [(.lst false (x.els.map CS.cells))] (fun r => r = .int .i64 (CS.partsL x.els : Int))) : APure Try.prog 56 [(.lst false (l.map CS.cells))] (fun r => r = .int .i64 (CS.partsL l : Int)) := by
 refine APure.of_body (n := 36) tok Try.func56 rfl rfl ?_
 refine asr ?_
 refine aa 2 ?_
 refine an ?_
 refine asr ?_
 refine am 5 ?_
 refine aq 6 (q_len tok rfl rfl rfl rfl rfl) ?_
 refine aa 3 ?_
 refine an ?_
 refine AGo.seq ?_
 refine asr ?_
 refine aa 4 ?_
 refine an ?_
 refine AGo.block ?_
 refine AGo.loopD (γ := Nat) 0 (fun k => ⟨36, (eput (eput (eput eNew 0 (.lst false (l.map CS.cells))) 3 (.int .i64 ((CS.partsL (l.take k) + (l.length - k) : Nat) : Int))) 4 (.int .i64 (k : Int))), (hFrom 0)⟩) (fun k => k ≤ l.length) (fun k => l.length - k) 0 (Sub.mk' (by repeat (first | exact ESub.new _ | refine ESub.put ?_ (by first | rfl | exact congrArg (fun n => some (AV.int .i64 n)) (by simp [CS.partsL])))) z13q) (Nat.zero_le _) (fun _ => fun b hb => hFrom_free hb) ?_
 intro k hkk
 refine AGo.seq ?_
 refine asr ?_
 refine am 7 ?_
 refine am 8 ?_
 refine aq 9 (q_len tok rfl rfl rfl rfl rfl) ?_
 refine aqb ?_
 refine an ?_
 refine AGo.split 10 rfl (fun hb1 => ?_) (fun hb1 => ?_)
 ·
  refine act ?_
  have hkl : k < l.length := lt_of_idx hb1
  obtain ⟨x, hx⟩ := get_of_lt hkl
  have hxm := List.mem_of_getElem? hx
  have hxk := hk x hxm
  have htk := spartsL_take hx
  have hpk := sparts_es x
  have hrest := spartsL_app (l.drop (k + 1)) (l.take (k + 1))
  rw [List.take_append_drop] at hrest
  have hdl := spartsL_len (l.drop (k + 1))
  rw [List.length_drop] at hdl
  refine AGo.skip ?_
  refine AGo.seq ?_
  refine AGo.block ?_
  refine AGo.draw mix ?_
  refine dm 13 ?_
  refine dm 14 ?_
  refine dm 15 ?_
  refine dq 16 (q_index_lst tok rfl rfl rfl rfl rfl rfl (Int.natCast_nonneg _) (idxS hx) rfl) ?_
  refine df 17 tok ?_
  refine dl 18 tok ?_
  refine dx 19 (o_pure rfl Try.func75 (by kernel_rfl) rfl rfl rfl (sizeE_ok _ x.es (Nat.le_refl _) hxk.esOk.1 hxk.esOk.2 (by omega))) ?_
  refine dq 20 (q_bin (r := .int .i64 (((CS.partsL (l.take k) + (l.length - k) + CE.partsL x.es : Nat) : Int))) rfl rfl rfl z25q) ?_
  refine dm 21 ?_
  refine dm 22 ?_
  refine dq 23 (q_index_lst tok rfl rfl rfl rfl rfl rfl (Int.natCast_nonneg _) (idxS hx) rfl) ?_
  refine df 24 tok ?_
  refine dl 25 tok ?_
  refine dx 26 (o_pure rfl Try.func56 (by kernel_rfl) rfl rfl rfl ((hrec x hxm).1)) ?_
  refine dq 27 (q_bin (r := .int .i64 (((CS.partsL (l.take k) + (l.length - k) + CE.partsL x.es + CS.partsL x.thn : Nat) : Int))) rfl rfl rfl z25q) ?_
  refine dm 28 ?_
  refine dm 29 ?_
  refine dq 30 (q_index_lst tok rfl rfl rfl rfl rfl rfl (Int.natCast_nonneg _) (idxS hx) rfl) ?_
  refine df 31 tok ?_
  refine dl 32 tok ?_
  refine dx 33 (o_pure rfl Try.func56 (by kernel_rfl) rfl rfl rfl ((hrec x hxm).2)) ?_
  refine dq 34 (q_bin (r := .int .i64 (((CS.partsL (l.take k) + (l.length - k) + CE.partsL x.es + CS.partsL x.thn + CS.partsL x.els : Nat) : Int))) rfl rfl rfl z25q) ?_
  refine da 3 ?_
  refine DOps.nil (by kernel_rfl) ?_
  refine AGo.region ?_
  refine am 11 ?_
  refine aq 12 (q_inc rfl rfl hkl hlen) ?_
  refine aa 4 ?_
  refine an ?_
  exact ⟨k+1, Drop.mk' (by repeat (first | exact EDrop.new _ _ | refine EDrop.put ?_ (by first | rfl | exact congrArg (fun n => some (AV.int .i64 n)) (by rw [htk, sparts_es]; omega)) z35q)) z17q, hkl, by omega⟩
 ·
  refine acf ?_
  have hke : k = l.length := Nat.le_antisymm hkk (ge_of_idx hb1)
  refine AGo.exit ?_
  refine asr ?_
  refine am 35 ?_
  refine aa 2 ?_
  refine an ?_
  refine AGo.ret ?_
  refine ⟨[_], ⟨rfl, trivial⟩, ?_, rfl⟩
  subst hke
  rw [List.take_length, Nat.sub_self]; rfl
theorem sizeS_ok : ∀ (n : Nat) (l : List CS), CS.partsL l ≤ n → (∀ e ∈ l, e.Ok) → l.length * 96 ≤ reachBytes → CS.partsL l ≤ 1000000 → APure Try.prog 56 [(.lst false (l.map CS.cells))] (fun r => r = .int .i64 (CS.partsL l : Int))
  | 0, l, hn, hk, hl, h1 => sizeS_step l hk (len96 hl) h1 fun x hx => absurd (sparts_mem hx) (by have := sparts_es x; omega)
  | n + 1, l, hn, hk, hl, h1 => sizeS_step l hk (len96 hl) h1 fun x hx => ⟨sizeS_ok n x.thn z39q (hk x hx).thnOk.1 (hk x hx).thnOk.2 z39q, sizeS_ok n x.els z39q (hk x hx).elsOk.1 (hk x hx).elsOk.2 z39q⟩
set_option maxRecDepth 100000 in
theorem size19_ok (C : Core) (hC : C.Ok) (hp : C.parts ≤ 1000000) : APure Try.prog 35 [.agg C.cells] (fun r => r = .int .i64 (C.parts : Int)) := by
 refine APure.of_body (n := 22) tok Try.func35 rfl rfl ?_
 refine asr ?_
 refine ax 1 (o_box (sz := 2) 0 rfl rfl rfl rfl (Nat.zero_lt_succ _) rfl) ?_
 refine aa 2 ?_
 refine an ?_
 refine asr ?_
 refine aa 3 ?_
 refine an ?_
 refine AGo.seq ?_
 refine asr ?_
 refine aa 4 ?_
 refine an ?_
 refine AGo.block ?_
 refine AGo.loopD (γ := Nat) 1 (fun k => ⟨22, (eput (eput (eput eNew 1 (.ptr 0 1 0 0)) 3 (.int .i64 ((((C.funcs.take k).map fun f => CS.partsL f.body).sum : Nat) : Int))) 4 (.int .i64 (k : Int))), (hput (hFrom 1) 0 (.row false 2 [C.cells]))⟩) (fun k => k ≤ C.funcs.length) (fun k => C.funcs.length - k) 0 (Sub.mk' z34q z13q) (Nat.zero_le _) (fun _ => hput_free (fun b hb => hFrom_free hb) rfl) ?_
 intro k hkk
 refine AGo.seq ?_
 refine asr ?_
 refine am 5 ?_
 refine af 6 tok ?_
 refine al 7 tok ?_
 refine aq 8 (q_len tok rfl rfl rfl rfl rfl) ?_
 refine aqb ?_
 refine an ?_
 refine AGo.split 9 rfl (fun hb1 => ?_) (fun hb1 => ?_)
 ·
  refine act ?_
  have hkl : k < C.funcs.length := lt_of_idx hb1
  obtain ⟨x, hx⟩ := get_of_lt hkl
  have hxm := List.mem_of_getElem? hx
  have htk := sum_succ (p := fun f : CFn => CS.partsL f.body) hx
  have hle := psum_le (k + 1) C
  have hxb := parts_body hxm
  refine AGo.skip ?_
  refine AGo.seq ?_
  refine AGo.block ?_
  refine AGo.region ?_
  refine am 12 ?_
  refine af 13 tok ?_
  refine al 14 tok ?_
  refine am 15 ?_
  refine aq 16 (q_index_lst tok rfl rfl rfl rfl rfl rfl (Int.natCast_nonneg _) (idx_map (by assumption)) rfl) ?_
  refine af 17 tok ?_
  refine al 18 tok ?_
  refine ax 19 (o_pure rfl Try.func56 (by kernel_rfl) rfl rfl rfl (sizeS_ok _ x.body (Nat.le_refl _) (hC.funcs x hxm).body (hC.funcs x hxm).len (by omega))) ?_
  refine aq 20 (q_bin (r := .int .i64 ((((((C.funcs.take k).map fun f => CS.partsL f.body).sum + CS.partsL x.body) : Nat) : Int))) rfl rfl rfl z25q) ?_
  refine aa 3 ?_
  refine an ?_
  refine AGo.region ?_
  refine am 10 ?_
  refine aq 11 (q_inc rfl rfl hkl (len56 hC.len)) ?_
  refine aa 4 ?_
  refine an ?_
  exact ⟨k+1, Drop.mk' (by repeat (first | exact EDrop.new _ _ | refine EDrop.put ?_ (by first | rfl | exact congrArg (fun n => some (AV.int .i64 n)) (by rw [htk])) z35q)) z17q, hkl, by omega⟩
 ·
  refine acf ?_
  have hke : k = C.funcs.length := Nat.le_antisymm hkk (ge_of_idx hb1)
  refine AGo.exit ?_
  refine asr ?_
  refine am 21 ?_
  refine aa 2 ?_
  refine an ?_
  refine AGo.ret ?_
  refine ⟨[_], ⟨rfl, trivial⟩, ?_, rfl⟩
  subst hke
  rw [List.take_length]; rfl
set_option maxRecDepth 100000 in
theorem fuel25_ok (C : Core) (ticks : Int) (hC : C.Ok) (hp : C.parts ≤ 1000000) (h0 : 0 ≤ C.words) (h1 : C.words ≤ 1000000) (h2 : 0 ≤ ticks) (h3 : ticks ≤ 100000) : APure Try.prog 19 [.agg C.cells, .int .i64 ticks] (fun r => r = .int .i64 ((ticks + 1) * C.k)) := by
 refine APure.of_body (n := 15) tok Try.func19 rfl rfl ?_
 refine asr ?_
 refine ax 2 (o_box (sz := 2) 0 rfl rfl rfl rfl (Nat.zero_lt_succ _) rfl) ?_
 refine aa 4 ?_
 refine an ?_
 refine AGo.seq ?_
 refine AGo.draw mix ?_
 refine dm 5 ?_
 refine dq 6 (q_bin (r := .int .i64 (ticks + 1)) rfl rfl rfl z29q) ?_
 refine dq 7 (q_bin (r := .int .i64 ((ticks + 1) * 8)) rfl rfl rfl z29q) ?_
 refine dl 8 tok ?_
 refine dx 9 (o_pure rfl Try.func35 (by kernel_rfl) rfl rfl rfl (size19_ok C hC hp)) ?_
 refine df 10 tok ?_
 refine dl 11 tok ?_
 refine dq 12 (q_bin (r := .int .i64 ((C.parts : Int) + C.words)) rfl rfl rfl z29q) ?_
 refine dq 13 (q_bin (r := .int .i64 ((C.parts : Int) + C.words + 1)) rfl rfl rfl z29q) ?_
 refine dq 14 (q_bin (r := .int .i64 ((ticks + 1) * C.k)) rfl rfl rfl (by simp only [evalBin, evalInt, isShift, cond_false, if_true]; rw [show (ticks + 1) * 8 * ((C.parts : Int) + C.words + 1) = (ticks + 1) * C.k from fuel_eq h0 ticks, wrap_i64 (fuel_lo hp h0 h1 h2 h3).1 (fuel_lo hp h0 h1 h2 h3).2])) ?_
 refine da 4 ?_
 refine DOps.nil (by kernel_rfl) ?_
 refine AGo.ret ?_
 refine ⟨[_], ⟨rfl, trivial⟩, ?_, rfl⟩
 rfl
set_option maxRecDepth 100000 in
theorem sets_ok (t : Tac) : APure Try.prog 69 [.agg t.cells] (fun r => r = .int .i64 t.sets) := by
 refine APure.of_body (n := 14) tok Try.func69 rfl rfl ?_
 refine asr ?_
 refine ax 1 (o_box (sz := 8) 0 rfl rfl rfl rfl (Nat.zero_lt_succ _) rfl) ?_
 refine aa 2 ?_
 refine an ?_
 refine AGo.seq ?_
 refine asr ?_
 refine af 3 tok ?_
 refine al 4 tok ?_
 refine an ?_
 refine AGo.block ?_
 refine AGo.seq ?_
 refine asr ?_
 refine aqb ?_
 refine aa 5 ?_
 refine an ?_
 refine AGo.split 5 rfl (fun hb1 => ?_) (fun hb1 => ?_)
 ·
  refine act ?_
  refine AGo.skip ?_
  refine act ?_
  refine asr ?_
  refine af 12 tok ?_
  refine al 13 tok ?_
  refine aa 2 ?_
  refine an ?_
  refine AGo.ret ?_
  refine ⟨[_], ⟨rfl, trivial⟩, ?_, rfl⟩
  show AV.int .i64 _ = AV.int .i64 _
  congr 1
  simp [Tac.sets, setsOp, *]
 ·
  refine acf ?_
  refine asr ?_
  refine aqb ?_
  refine aa 5 ?_
  refine an ?_
  refine AGo.split 5 rfl (fun hb2 => ?_) (fun hb2 => ?_)
  ·
   refine act ?_
   refine AGo.skip ?_
   refine act ?_
   refine asr ?_
   refine af 12 tok ?_
   refine al 13 tok ?_
   refine aa 2 ?_
   refine an ?_
   refine AGo.ret ?_
   refine ⟨[_], ⟨rfl, trivial⟩, ?_, rfl⟩
   show AV.int .i64 _ = AV.int .i64 _
   congr 1
   simp [Tac.sets, setsOp, *]
  ·
   refine acf ?_
   refine asr ?_
   refine aqb ?_
   refine aa 5 ?_
   refine an ?_
   refine AGo.split 5 rfl (fun hb3 => ?_) (fun hb3 => ?_)
   ·
    refine act ?_;refine AGo.skip ?_;refine act ?_;refine asr ?_;refine af 12 tok ?_;refine al 13 tok ?_;refine aa 2 ?_;refine an ?_;refine AGo.ret ?_;refine ⟨[_], ⟨rfl, trivial⟩, ?_, rfl⟩
    show AV.int .i64 _ = AV.int .i64 _
    congr 1
    simp [Tac.sets, setsOp, *]
   ·
    refine acf ?_;refine asr ?_;refine aqb ?_;refine aa 5 ?_;refine an ?_;refine AGo.split 5 rfl (fun hb4 => ?_) (fun hb4 => ?_)
    ·
     refine act ?_;refine AGo.skip ?_;refine act ?_;refine asr ?_;refine af 12 tok ?_;refine al 13 tok ?_;refine aa 2 ?_;refine an ?_;refine AGo.ret ?_;refine ⟨[_], ⟨rfl, trivial⟩, ?_, rfl⟩
     show AV.int .i64 _ = AV.int .i64 _
     congr 1
     simp [Tac.sets, setsOp, *]
    ·
     refine acf ?_;refine asr ?_;refine aqb ?_;refine aa 5 ?_;refine an ?_;refine AGo.split 5 rfl (fun hb5 => ?_) (fun hb5 => ?_)
     ·
      refine act ?_;refine AGo.skip ?_;refine act ?_;refine asr ?_;refine af 12 tok ?_;refine al 13 tok ?_;refine aa 2 ?_;refine an ?_;refine AGo.ret ?_;refine ⟨[_], ⟨rfl, trivial⟩, ?_, rfl⟩
      show AV.int .i64 _ = AV.int .i64 _
      congr 1
      simp [Tac.sets, setsOp, *]
     ·
      refine acf ?_;refine AGo.region ?_;refine aqb ?_;refine aa 5 ?_;refine an ?_;refine AGo.split 5 rfl (fun hb6 => ?_) (fun hb6 => ?_)
      ·
       refine act ?_;refine asr ?_;refine af 12 tok ?_;refine al 13 tok ?_;refine aa 2 ?_;refine an ?_;refine AGo.ret ?_;refine ⟨[_], ⟨rfl, trivial⟩, ?_, rfl⟩
       show AV.int .i64 _ = AV.int .i64 _
       congr 1
       simp [Tac.sets, setsOp, *]
      ·
       refine acf ?_;refine AGo.skip ?_;refine asr ?_;refine aa 2 ?_;refine an ?_;refine AGo.ret ?_;refine ⟨[_], ⟨rfl, trivial⟩, ?_, rfl⟩
       show AV.int .i64 _ = AV.int .i64 _
       congr 1
       simp [Tac.sets, setsOp, *]
set_option maxRecDepth 100000 in
theorem uses_ok (t : Tac) : APure Try.prog 70 [.agg t.cells] (fun r => r = intsAV t.uses) := by
 refine APure.of_body (n := 21) tok Try.func70 rfl rfl ?_
 refine asr ?_
 refine ax 1 (o_box (sz := 8) 0 rfl rfl rfl rfl (Nat.zero_lt_succ _) rfl) ?_
 refine aa 2 ?_
 refine an ?_
 refine AGo.seq ?_
 refine asr ?_
 refine af 3 tok ?_
 refine al 4 tok ?_
 refine an ?_
 refine AGo.block ?_
 refine AGo.seq ?_
 refine asr ?_
 refine aqb ?_
 refine aa 5 ?_
 refine an ?_
 refine AGo.split 5 rfl (fun hb1 => ?_) (fun hb1 => ?_)
 ·
  refine act ?_
  refine AGo.skip ?_
  refine act ?_
  refine asr ?_
  refine af 10 tok ?_
  refine al 11 tok ?_
  refine ax 12 (o_lit' tok rfl rfl rfl rfl rfl rfl (by decide) rfl rfl rfl rfl rfl rfl) ?_
  refine aa 2 ?_
  refine an ?_
  refine AGo.ret ?_
  refine ⟨[_], ⟨rfl, trivial⟩, ?_, rfl⟩
  show AV.lst false _ = _
  simp [Tac.uses, use1, use2, intsAV, partVals, AV.cells, *]
 ·
  refine acf ?_
  refine asr ?_
  refine aqb ?_
  refine aa 5 ?_
  refine an ?_
  refine AGo.split 5 rfl (fun hb2 => ?_) (fun hb2 => ?_)
  ·
   refine act ?_
   refine AGo.skip ?_
   refine act ?_
   refine asr ?_
   refine af 10 tok ?_
   refine al 11 tok ?_
   refine ax 12 (o_lit' tok rfl rfl rfl rfl rfl rfl (by decide) rfl rfl rfl rfl rfl rfl) ?_
   refine aa 2 ?_
   refine an ?_
   refine AGo.ret ?_
   refine ⟨[_], ⟨rfl, trivial⟩, ?_, rfl⟩
   show AV.lst false _ = _
   simp [Tac.uses, use1, use2, intsAV, partVals, AV.cells, *]
  ·
   refine acf ?_
   refine asr ?_
   refine aqb ?_
   refine aa 5 ?_
   refine an ?_
   refine AGo.split 5 rfl (fun hb3 => ?_) (fun hb3 => ?_)
   ·
    refine act ?_;refine AGo.skip ?_;refine act ?_;refine asr ?_;refine af 10 tok ?_;refine al 11 tok ?_;refine ax 12 (o_lit' tok rfl rfl rfl rfl rfl rfl (by decide) rfl rfl rfl rfl rfl rfl) ?_;refine aa 2 ?_;refine an ?_;refine AGo.ret ?_;refine ⟨[_], ⟨rfl, trivial⟩, ?_, rfl⟩
    show AV.lst false _ = _
    simp [Tac.uses, use1, use2, intsAV, partVals, AV.cells, *]
   ·
    refine acf ?_;refine AGo.region ?_;refine aqb ?_;refine aa 5 ?_;refine an ?_;refine AGo.split 5 rfl (fun hb4 => ?_) (fun hb4 => ?_)
    ·
     refine act ?_;refine asr ?_;refine af 10 tok ?_;refine al 11 tok ?_;refine ax 12 (o_lit' tok rfl rfl rfl rfl rfl rfl (by decide) rfl rfl rfl rfl rfl rfl) ?_;refine aa 2 ?_;refine an ?_;refine AGo.ret ?_;refine ⟨[_], ⟨rfl, trivial⟩, ?_, rfl⟩
     show AV.lst false _ = _
     simp [Tac.uses, use1, use2, intsAV, partVals, AV.cells, *]
    ·
     refine acf ?_;refine AGo.seq ?_;refine asr ?_;refine aqb ?_;refine aa 13 ?_;refine an ?_;refine AGo.split 13 rfl (fun hb5 => ?_) (fun hb5 => ?_)
     ·
      refine act ?_;refine AGo.skip ?_;refine act ?_;refine asr ?_;refine af 16 tok ?_;refine al 17 tok ?_;refine af 18 tok ?_;refine al 19 tok ?_;refine ax 20 (o_lit' tok rfl rfl rfl rfl rfl rfl (by decide) rfl rfl rfl rfl rfl rfl) ?_;refine aa 2 ?_;refine an ?_;refine AGo.ret ?_;refine ⟨[_], ⟨rfl, trivial⟩, ?_, rfl⟩
      show AV.lst false _ = _
      simp [Tac.uses, use1, use2, intsAV, partVals, AV.cells, *]
     ·
      refine acf ?_;refine AGo.region ?_;refine aqb ?_;refine aa 13 ?_;refine an ?_;refine AGo.split 13 rfl (fun hb6 => ?_) (fun hb6 => ?_)
      ·
       refine act ?_;refine asr ?_;refine af 16 tok ?_;refine al 17 tok ?_;refine af 18 tok ?_;refine al 19 tok ?_;refine ax 20 (o_lit' tok rfl rfl rfl rfl rfl rfl (by decide) rfl rfl rfl rfl rfl rfl) ?_;refine aa 2 ?_;refine an ?_;refine AGo.ret ?_;refine ⟨[_], ⟨rfl, trivial⟩, ?_, rfl⟩
       show AV.lst false _ = _
       simp [Tac.uses, use1, use2, intsAV, partVals, AV.cells, *]
      ·
       refine acf ?_;refine AGo.skip ?_;refine asr ?_;refine aa 2 ?_;refine an ?_;refine AGo.ghost (.empty 2 rfl) ?_;refine AGo.ret ?_;refine ⟨[_], ⟨rfl, trivial⟩, ?_, rfl⟩
       show AV.lst false _ = _
       simp [Tac.uses, use1, use2, intsAV, partVals, AV.cells, *]
set_option maxRecDepth 100000 in
theorem within_ok (i j : Int) : APure Try.prog 68 [.int .i64 i, .int .i64 j] (fun r => r = .bool (within i j)) := by
 refine APure.of_body (n := 12) tok Try.func68 rfl rfl ?_
 refine asr ?_
 refine aa 4 ?_
 refine an ?_
 refine asr ?_
 refine am 5 ?_
 refine aqb ?_
 refine am 7 ?_
 refine AOps.split 7 rfl (fun hb1 => ?_) (fun hb1 => ?_)
 ·
  refine am 8 ?_
  refine am 9 ?_
  refine aqb ?_
  refine apt ?_
  refine aa 4 ?_
  refine an ?_
  refine AGo.ret ?_
  refine ⟨[_], ⟨rfl, trivial⟩, ?_, rfl⟩
  show AV.bool _ = AV.bool _
  congr 1
  simp_all [within] <;> omega
 ·
  iterate 3 refine ak _ ?_
  refine apf ?_
  refine aa 4 ?_
  refine an ?_
  refine AGo.ret ?_
  refine ⟨[_], ⟨rfl, trivial⟩, ?_, rfl⟩
  show AV.bool _ = AV.bool _
  congr 1
  simp_all [within] <;> omega
set_option maxRecDepth 100000 in
theorem ends_ok (b : Block) (blocks regs : Int) : APure Try.prog 51 [.agg b.cells, .int .i64 blocks, .int .i64 regs] (fun r => r = .bool (b.ends blocks regs)) := by
 refine APure.of_body (n := 61) tok Try.func51 rfl rfl ?_
 refine asr ?_
 refine ax 3 (o_box (sz := 5) 0 rfl rfl rfl rfl (Nat.zero_lt_succ _) rfl) ?_
 refine aa 6 ?_
 refine an ?_
 refine AGo.seq ?_
 refine asr ?_
 refine af 7 tok ?_
 refine al 8 tok ?_
 refine an ?_
 refine AGo.block ?_
 refine asr ?_
 refine aqb ?_
 refine aa 9 ?_
 refine an ?_
 refine AGo.split 9 rfl (fun hb1 => ?_) (fun hb1 => ?_)
 ·
  refine act ?_
  refine asr ?_
  refine af 11 tok ?_
  refine al 12 tok ?_
  refine am 13 ?_
  refine ax 14 (o_pure rfl Try.func68 (by kernel_rfl) rfl rfl rfl (within_ok _ _)) ?_
  refine am 15 ?_
  refine AOps.split 15 rfl (fun hb2 => ?_) (fun hb2 => ?_)
  ·
   refine af 16 tok ?_
   refine al 17 tok ?_
   refine aqb ?_
   refine apt ?_
   refine am 20 ?_
   refine AOps.split 20 rfl (fun hb3 => ?_) (fun hb3 => ?_)
   ·
    refine af 21 tok ?_;refine al 22 tok ?_;refine aqb ?_;refine apt ?_;refine aa 6 ?_;refine an ?_;refine AGo.ret ?_;refine ⟨[_], ⟨rfl, trivial⟩, ?_, rfl⟩
    show AV.bool _ = AV.bool _
    congr 1
    simp_all [Block.ends]
   ·
    iterate 3 refine ak _ ?_
    refine apf ?_;refine aa 6 ?_;refine an ?_;refine AGo.ret ?_;refine ⟨[_], ⟨rfl, trivial⟩, ?_, rfl⟩
    show AV.bool _ = AV.bool _
    congr 1
    simp_all [Block.ends]
  ·
   iterate 3 refine ak _ ?_
   refine apf ?_
   refine am 20 ?_
   iterate 3 refine ak _ ?_
   refine apf ?_
   refine aa 6 ?_
   refine an ?_
   refine AGo.ret ?_
   refine ⟨[_], ⟨rfl, trivial⟩, ?_, rfl⟩
   show AV.bool _ = AV.bool _
   congr 1
   simp_all [Block.ends]
 ·
  refine acf ?_
  refine asr ?_
  refine aqb ?_
  refine aa 25 ?_
  refine an ?_
  refine AGo.split 25 rfl (fun hb4 => ?_) (fun hb4 => ?_)
  ·
   refine act ?_
   refine asr ?_
   refine af 27 tok ?_
   refine al 28 tok ?_
   refine am 29 ?_
   refine ax 30 (o_pure rfl Try.func68 (by kernel_rfl) rfl rfl rfl (within_ok _ _)) ?_
   refine am 31 ?_
   refine AOps.split 31 rfl (fun hb5 => ?_) (fun hb5 => ?_)
   ·
    refine af 32 tok ?_;refine al 33 tok ?_;refine am 34 ?_;refine ax 35 (o_pure rfl Try.func68 (by kernel_rfl) rfl rfl rfl (within_ok _ _)) ?_;refine apt ?_;refine am 37 ?_;refine AOps.split 37 rfl (fun hb6 => ?_) (fun hb6 => ?_)
    ·
     refine af 38 tok ?_;refine al 39 tok ?_;refine am 40 ?_;refine ax 41 (o_pure rfl Try.func68 (by kernel_rfl) rfl rfl rfl (within_ok _ _)) ?_;refine apt ?_;refine aa 6 ?_;refine an ?_;refine AGo.ret ?_;refine ⟨[_], ⟨rfl, trivial⟩, ?_, rfl⟩
     show AV.bool _ = AV.bool _
     congr 1
     simp_all [Block.ends]
    ·
     iterate 4 refine ak _ ?_
     refine apf ?_;refine aa 6 ?_;refine an ?_;refine AGo.ret ?_;refine ⟨[_], ⟨rfl, trivial⟩, ?_, rfl⟩
     show AV.bool _ = AV.bool _
     congr 1
     simp_all [Block.ends]
   ·
    iterate 4 refine ak _ ?_
    refine apf ?_;refine am 37 ?_
    iterate 4 refine ak _ ?_
    refine apf ?_;refine aa 6 ?_;refine an ?_;refine AGo.ret ?_;refine ⟨[_], ⟨rfl, trivial⟩, ?_, rfl⟩
    show AV.bool _ = AV.bool _
    congr 1
    simp_all [Block.ends]
  ·
   refine acf ?_
   refine AGo.skip ?_
   refine asr ?_
   refine af 43 tok ?_
   refine al 44 tok ?_
   refine aqb ?_
   refine am 46 ?_
   refine AOps.split 46 rfl (fun hb7 => ?_) (fun hb7 => ?_)
   ·
    refine af 47 tok ?_;refine al 48 tok ?_;refine aqb ?_;refine apt ?_;refine am 51 ?_;refine AOps.split 51 rfl (fun hb8 => ?_) (fun hb8 => ?_)
    ·
     refine af 52 tok ?_;refine al 53 tok ?_;refine aqb ?_;refine apt ?_;refine am 56 ?_;refine AOps.split 56 rfl (fun hb9 => ?_) (fun hb9 => ?_)
     ·
      refine af 57 tok ?_;refine al 58 tok ?_;refine aqb ?_;refine apt ?_;refine aa 6 ?_;refine an ?_;refine AGo.ret ?_;refine ⟨[_], ⟨rfl, trivial⟩, ?_, rfl⟩
      show AV.bool _ = AV.bool _
      congr 1
      simp_all [Block.ends]
     ·
      iterate 3 refine ak _ ?_
      refine apf ?_;refine aa 6 ?_;refine an ?_;refine AGo.ret ?_;refine ⟨[_], ⟨rfl, trivial⟩, ?_, rfl⟩
      show AV.bool _ = AV.bool _
      congr 1
      simp_all [Block.ends]
    ·
     iterate 3 refine ak _ ?_
     refine apf ?_;refine am 56 ?_
     iterate 3 refine ak _ ?_
     refine apf ?_;refine aa 6 ?_;refine an ?_;refine AGo.ret ?_;refine ⟨[_], ⟨rfl, trivial⟩, ?_, rfl⟩
     show AV.bool _ = AV.bool _
     congr 1
     simp_all [Block.ends]
   ·
    iterate 3 refine ak _ ?_
    refine apf ?_;refine am 51 ?_
    iterate 3 refine ak _ ?_
    refine apf ?_;refine am 56 ?_
    iterate 3 refine ak _ ?_
    refine apf ?_;refine aa 6 ?_;refine an ?_;refine AGo.ret ?_;refine ⟨[_], ⟨rfl, trivial⟩, ?_, rfl⟩
    show AV.bool _ = AV.bool _
    congr 1
    simp_all [Block.ends]
set_option maxRecDepth 100000 in
theorem fits_ok (t : Tac) (f regs words : Int) (hw : 0 ≤ words) (hw2 : words ≤ 1048576) : APure Try.prog 52 [.agg t.cells, .int .i64 f, .int .i64 regs, .int .i64 words] (fun r => r = .bool (t.fits f regs words)) := by
 refine APure.of_body (n := 166) tok Try.func52 rfl rfl ?_
 refine asr ?_
 refine ax 4 (o_box (sz := 8) 0 rfl rfl rfl rfl (Nat.zero_lt_succ _) rfl) ?_
 refine aa 8 ?_
 refine an ?_
 refine AGo.seq ?_
 refine asr ?_
 refine af 12 tok ?_
 refine al 13 tok ?_
 refine aqb ?_
 refine am 15 ?_
 refine AOps.split 15 rfl (fun hb1 => ?_) (fun hb1 => ?_)
 ·
  iterate 3 refine ak _ ?_
  refine apt ?_
  refine an ?_
  refine act ?_
  refine asr ?_
  refine aa 8 ?_
  refine an ?_
  refine AGo.ret ?_
  refine ⟨[_], ⟨rfl, trivial⟩, ?_, rfl⟩
  show AV.bool _ = AV.bool _
  congr 1
  exact (fits_op (by simp_all <;> omega)).symm
 ·
  refine af 16 tok ?_
  refine al 17 tok ?_
  refine aqb ?_
  refine apf ?_
  refine an ?_
  refine AGo.split 19 rfl (fun hb2 => ?_) (fun hb2 => ?_)
  ·
   refine act ?_
   refine asr ?_
   refine aa 8 ?_
   refine an ?_
   refine AGo.ret ?_
   refine ⟨[_], ⟨rfl, trivial⟩, ?_, rfl⟩
   show AV.bool _ = AV.bool _
   congr 1
   exact (fits_op (by simp_all <;> omega)).symm
  ·
   refine acf ?_
   refine AGo.skip ?_
   refine asr ?_
   refine af 20 tok ?_
   refine al 21 tok ?_
   refine aq 22 (q_build tok rfl rfl rfl rfl rfl (by decide) rfl rfl rfl) ?_
   refine ax 9 (o_alloc tok 1 rfl rfl rfl rfl (Nat.zero_lt_succ _) rfl) ?_
   refine AOps.w rfl rfl (o_store tok rfl rfl rfl rfl rfl rfl rfl rfl rfl (by decide) rfl z40q) ?_
   refine an ?_
   refine AGo.seq ?_
   refine AGo.join (γ := Int) (fun d => ⟨166, (eput (eput (eput (eput (eput eNew 1 (.int .i64 f)) 2 (.int .i64 regs)) 3 (.int .i64 words)) 4 (.ptr 0 1 0 0)) 9 (.ptr 1 1 0 0)), (hput (hput (hFrom 2) 0 (.row false 8 [t.cells])) 1 (.row false 8 [[.int .i64 t.op, .int .i64 d, .int .i64 0, .int .i64 0, .int .i64 0, .int .i64 0, .int .i64 0, .int .u32 0]]))⟩) (fun d => (!setsOp t.op || within t.d regs) = true ∧ d = bif setsOp t.op then t.d else 0) ?_ ?_
   ·
    refine asr ?_;refine al 23 tok ?_;refine ax 24 (o_pure rfl Try.func69 (by kernel_rfl) rfl rfl rfl (sets_ok _)) ?_;refine aqb ?_;refine am 26 ?_;refine AOps.split 26 rfl (fun hb3 => ?_) (fun hb3 => ?_)
    ·
     iterate 3 refine ak _ ?_
     refine apt ?_;refine am 31 ?_
     iterate 3 refine ak _ ?_
     refine apt ?_;refine am 36 ?_
     iterate 3 refine ak _ ?_
     refine apt ?_;refine am 41 ?_
     iterate 3 refine ak _ ?_
     refine apt ?_;refine am 46 ?_
     iterate 3 refine ak _ ?_
     refine apt ?_;refine am 51 ?_
     iterate 3 refine ak _ ?_
     refine apt ?_;refine an ?_;refine act ?_;refine asr ?_;refine af 56 tok ?_;refine al 57 tok ?_;refine af 58 tok ?_;refine AOps.w rfl rfl (o_store tok rfl rfl rfl rfl rfl rfl rfl rfl rfl (by decide) rfl z40q) ?_;refine an ?_;refine asr ?_;refine af 59 tok ?_;refine al 60 tok ?_;refine am 61 ?_;refine ax 62 (o_pure rfl Try.func68 (by kernel_rfl) rfl rfl rfl (within_ok _ _)) ?_;refine aq 63 (q_not rfl rfl) ?_;refine an ?_;refine AGo.split 63 rfl (fun hb4 => ?_) (fun hb4 => ?_)
     ·
      refine act ?_;refine asr ?_;refine aa 8 ?_;refine an ?_;refine AGo.ret ?_;refine ⟨[_], ⟨rfl, trivial⟩, ?_, rfl⟩
      show AV.bool _ = AV.bool _
      congr 1
      exact (fits_d z37q z44q).symm
     ·
      refine acf ?_;refine AGo.skip ?_;exact ⟨t.d, Sub.mk' z34q z13q, ⟨by have h := ‹(!within t.d regs) = false›; simp at h; simp [h], by first | (simp [setsOp, *]; done) | simp [sets_pos ‹_›]⟩⟩
    ·
     refine af 27 tok ?_;refine al 28 tok ?_;refine aqb ?_;refine apf ?_;refine am 31 ?_;refine AOps.split 31 rfl (fun hb5 => ?_) (fun hb5 => ?_)
     ·
      iterate 3 refine ak _ ?_
      refine apt ?_;refine am 36 ?_
      iterate 3 refine ak _ ?_
      refine apt ?_;refine am 41 ?_
      iterate 3 refine ak _ ?_
      refine apt ?_;refine am 46 ?_
      iterate 3 refine ak _ ?_
      refine apt ?_;refine am 51 ?_
      iterate 3 refine ak _ ?_
      refine apt ?_;refine an ?_;refine act ?_;refine asr ?_;refine af 56 tok ?_;refine al 57 tok ?_;refine af 58 tok ?_;refine AOps.w rfl rfl (o_store tok rfl rfl rfl rfl rfl rfl rfl rfl rfl (by decide) rfl z40q) ?_;refine an ?_;refine asr ?_;refine af 59 tok ?_;refine al 60 tok ?_;refine am 61 ?_;refine ax 62 (o_pure rfl Try.func68 (by kernel_rfl) rfl rfl rfl (within_ok _ _)) ?_;refine aq 63 (q_not rfl rfl) ?_;refine an ?_;refine AGo.split 63 rfl (fun hb6 => ?_) (fun hb6 => ?_)
      ·
       refine act ?_;refine asr ?_;refine aa 8 ?_;refine an ?_;refine AGo.ret ?_;refine ⟨[_], ⟨rfl, trivial⟩, ?_, rfl⟩
       show AV.bool _ = AV.bool _
       congr 1
       exact (fits_d z37q z44q).symm
      ·
       refine acf ?_;refine AGo.skip ?_;exact ⟨t.d, Sub.mk' z34q z13q, ⟨by have h := ‹(!within t.d regs) = false›; simp at h; simp [h], by first | (simp [setsOp, *]; done) | simp [sets_pos ‹_›]⟩⟩
     ·
      refine af 32 tok ?_;refine al 33 tok ?_;refine aqb ?_;refine apf ?_;refine am 36 ?_;refine AOps.split 36 rfl (fun hb7 => ?_) (fun hb7 => ?_)
      ·
       iterate 3 refine ak _ ?_
       refine apt ?_;refine am 41 ?_
       iterate 3 refine ak _ ?_
       refine apt ?_;refine am 46 ?_
       iterate 3 refine ak _ ?_
       refine apt ?_;refine am 51 ?_
       iterate 3 refine ak _ ?_
       refine apt ?_;refine an ?_;refine act ?_;refine asr ?_;refine af 56 tok ?_;refine al 57 tok ?_;refine af 58 tok ?_;refine AOps.w rfl rfl (o_store tok rfl rfl rfl rfl rfl rfl rfl rfl rfl (by decide) rfl z40q) ?_;refine an ?_;refine asr ?_;refine af 59 tok ?_;refine al 60 tok ?_;refine am 61 ?_;refine ax 62 (o_pure rfl Try.func68 (by kernel_rfl) rfl rfl rfl (within_ok _ _)) ?_;refine aq 63 (q_not rfl rfl) ?_;refine an ?_;refine AGo.split 63 rfl (fun hb8 => ?_) (fun hb8 => ?_)
       ·
        refine act ?_;refine asr ?_;refine aa 8 ?_;refine an ?_;refine AGo.ret ?_;refine ⟨[_], ⟨rfl, trivial⟩, ?_, rfl⟩
        show AV.bool _ = AV.bool _
        congr 1
        exact (fits_d z37q z44q).symm
       ·
        refine acf ?_;refine AGo.skip ?_;exact ⟨t.d, Sub.mk' z34q z13q, ⟨by have h := ‹(!within t.d regs) = false›; simp at h; simp [h], by first | (simp [setsOp, *]; done) | simp [sets_pos ‹_›]⟩⟩
      ·
       refine af 37 tok ?_;refine al 38 tok ?_;refine aqb ?_;refine apf ?_;refine am 41 ?_;refine AOps.split 41 rfl (fun hb9 => ?_) (fun hb9 => ?_)
       ·
        iterate 3 refine ak _ ?_
        refine apt ?_;refine am 46 ?_
        iterate 3 refine ak _ ?_
        refine apt ?_;refine am 51 ?_
        iterate 3 refine ak _ ?_
        refine apt ?_;refine an ?_;refine act ?_;refine asr ?_;refine af 56 tok ?_;refine al 57 tok ?_;refine af 58 tok ?_;refine AOps.w rfl rfl (o_store tok rfl rfl rfl rfl rfl rfl rfl rfl rfl (by decide) rfl z40q) ?_;refine an ?_;refine asr ?_;refine af 59 tok ?_;refine al 60 tok ?_;refine am 61 ?_;refine ax 62 (o_pure rfl Try.func68 (by kernel_rfl) rfl rfl rfl (within_ok _ _)) ?_;refine aq 63 (q_not rfl rfl) ?_;refine an ?_;refine AGo.split 63 rfl (fun hb10 => ?_) (fun hb10 => ?_)
        ·
         refine act ?_;refine asr ?_;refine aa 8 ?_;refine an ?_;refine AGo.ret ?_;refine ⟨[_], ⟨rfl, trivial⟩, ?_, rfl⟩
         show AV.bool _ = AV.bool _
         congr 1
         exact (fits_d z37q z44q).symm
        ·
         refine acf ?_;refine AGo.skip ?_;exact ⟨t.d, Sub.mk' z34q z13q, ⟨by have h := ‹(!within t.d regs) = false›; simp at h; simp [h], by first | (simp [setsOp, *]; done) | simp [sets_pos ‹_›]⟩⟩
       ·
        refine af 42 tok ?_;refine al 43 tok ?_;refine aqb ?_;refine apf ?_;refine am 46 ?_;refine AOps.split 46 rfl (fun hb11 => ?_) (fun hb11 => ?_)
        ·
         iterate 3 refine ak _ ?_
         refine apt ?_;refine am 51 ?_
         iterate 3 refine ak _ ?_
         refine apt ?_;refine an ?_;refine act ?_;refine asr ?_;refine af 56 tok ?_;refine al 57 tok ?_;refine af 58 tok ?_;refine AOps.w rfl rfl (o_store tok rfl rfl rfl rfl rfl rfl rfl rfl rfl (by decide) rfl z40q) ?_;refine an ?_;refine asr ?_;refine af 59 tok ?_;refine al 60 tok ?_;refine am 61 ?_;refine ax 62 (o_pure rfl Try.func68 (by kernel_rfl) rfl rfl rfl (within_ok _ _)) ?_;refine aq 63 (q_not rfl rfl) ?_;refine an ?_;refine AGo.split 63 rfl (fun hb12 => ?_) (fun hb12 => ?_)
         ·
          refine act ?_;refine asr ?_;refine aa 8 ?_;refine an ?_;refine AGo.ret ?_;refine ⟨[_], ⟨rfl, trivial⟩, ?_, rfl⟩
          show AV.bool _ = AV.bool _
          congr 1
          exact (fits_d z37q z44q).symm
         ·
          refine acf ?_;refine AGo.skip ?_;exact ⟨t.d, Sub.mk' z34q z13q, ⟨by have h := ‹(!within t.d regs) = false›; simp at h; simp [h], by first | (simp [setsOp, *]; done) | simp [sets_pos ‹_›]⟩⟩
        ·
         refine af 47 tok ?_;refine al 48 tok ?_;refine aqb ?_;refine apf ?_;refine am 51 ?_;refine AOps.split 51 rfl (fun hb13 => ?_) (fun hb13 => ?_)
         ·
          iterate 3 refine ak _ ?_
          refine apt ?_;refine an ?_;refine act ?_;refine asr ?_;refine af 56 tok ?_;refine al 57 tok ?_;refine af 58 tok ?_;refine AOps.w rfl rfl (o_store tok rfl rfl rfl rfl rfl rfl rfl rfl rfl (by decide) rfl z40q) ?_;refine an ?_;refine asr ?_;refine af 59 tok ?_;refine al 60 tok ?_;refine am 61 ?_;refine ax 62 (o_pure rfl Try.func68 (by kernel_rfl) rfl rfl rfl (within_ok _ _)) ?_;refine aq 63 (q_not rfl rfl) ?_;refine an ?_;refine AGo.split 63 rfl (fun hb14 => ?_) (fun hb14 => ?_)
          ·
           refine act ?_;refine asr ?_;refine aa 8 ?_;refine an ?_;refine AGo.ret ?_;refine ⟨[_], ⟨rfl, trivial⟩, ?_, rfl⟩
           show AV.bool _ = AV.bool _
           congr 1
           exact (fits_d z37q z44q).symm
          ·
           refine acf ?_;refine AGo.skip ?_;exact ⟨t.d, Sub.mk' z34q z13q, ⟨by have h := ‹(!within t.d regs) = false›; simp at h; simp [h], by first | (simp [setsOp, *]; done) | simp [sets_pos ‹_›]⟩⟩
         ·
          refine af 52 tok ?_;refine al 53 tok ?_;refine aqb ?_;refine apf ?_;refine an ?_;refine AGo.split 55 rfl (fun hb15 => ?_) (fun hb15 => ?_)
          ·
           refine act ?_;refine asr ?_;refine af 56 tok ?_;refine al 57 tok ?_;refine af 58 tok ?_;refine AOps.w rfl rfl (o_store tok rfl rfl rfl rfl rfl rfl rfl rfl rfl (by decide) rfl z40q) ?_;refine an ?_;refine asr ?_;refine af 59 tok ?_;refine al 60 tok ?_;refine am 61 ?_;refine ax 62 (o_pure rfl Try.func68 (by kernel_rfl) rfl rfl rfl (within_ok _ _)) ?_;refine aq 63 (q_not rfl rfl) ?_;refine an ?_;refine AGo.split 63 rfl (fun hb16 => ?_) (fun hb16 => ?_)
           ·
            refine act ?_;refine asr ?_;refine aa 8 ?_;refine an ?_;refine AGo.ret ?_;refine ⟨[_], ⟨rfl, trivial⟩, ?_, rfl⟩
            show AV.bool _ = AV.bool _
            congr 1
            exact (fits_d z37q z44q).symm
           ·
            refine acf ?_;refine AGo.skip ?_;exact ⟨t.d, Sub.mk' z34q z13q, ⟨by have h := ‹(!within t.d regs) = false›; simp at h; simp [h], by first | (simp [setsOp, *]; done) | simp [sets_pos ‹_›]⟩⟩
          ·
           refine acf ?_;refine AGo.skip ?_;exact ⟨0, Sub.mk' z34q z13q, ⟨by simp [setsOp, *], by simp [setsOp, *]⟩⟩
   intro d ⟨hd, hdd⟩
   refine asr ?_
   refine al 64 tok ?_
   refine ax 65 (o_pure rfl Try.func70 (by kernel_rfl) rfl rfl rfl (uses_ok _)) ?_
   refine aa 10 ?_
   refine an ?_
   refine AGo.seq ?_
   refine asr ?_
   refine aa 11 ?_
   refine an ?_
   refine AGo.block ?_
   refine AGo.loopD (γ := Nat) 2 (fun j => ⟨166, (eput (eput (eput (eput (eput (eput (eput eNew 1 (.int .i64 f)) 2 (.int .i64 regs)) 3 (.int .i64 words)) 4 (.ptr 0 1 0 0)) 9 (.ptr 1 1 0 0)) 10 (intsAV t.uses)) 11 (.int .i64 (j : Int))), (hput (hput (hFrom 2) 0 (.row false 8 [t.cells])) 1 (.row false 8 [[.int .i64 t.op, .int .i64 d, .int .i64 0, .int .i64 0, .int .i64 0, .int .i64 0, .int .i64 0, .int .u32 0]]))⟩) (fun j => (t.uses.take j).all (fun r => within r regs) = true) (fun j => t.uses.length - j) 0 (Sub.mk' z34q z13q) rfl (fun _ => hput_free (hput_free (fun b hb => hFrom_free hb) rfl) rfl) ?_
   intro j hj
   refine AGo.seq ?_
   refine asr ?_
   refine am 66 ?_
   refine am 67 ?_
   refine aq 68 (q_len tok rfl rfl rfl rfl rfl) ?_
   refine aqb ?_
   refine an ?_
   refine AGo.split 69 rfl (fun hb17 => ?_) (fun hb17 => ?_)
   ·
    refine act ?_
    have hjl : j < t.uses.length := lt_of_idx hb17
    obtain ⟨u, hu⟩ := get_of_lt hjl
    refine AGo.skip ?_;refine AGo.seq ?_;refine AGo.block ?_;refine asr ?_;refine am 72 ?_;refine am 73 ?_;refine aq 74 (q_index_lst tok rfl rfl rfl rfl rfl rfl (Int.natCast_nonneg _) (idx_map (by assumption)) rfl) ?_;refine al 75 tok ?_;refine am 76 ?_;refine ax 77 (o_pure rfl Try.func68 (by kernel_rfl) rfl rfl rfl (within_ok _ _)) ?_;refine aq 78 (q_not rfl rfl) ?_;refine an ?_;refine AGo.split 78 rfl (fun hb18 => ?_) (fun hb18 => ?_)
    ·
     refine act ?_
     have hbw := hb18
     refine asr ?_;refine aa 8 ?_;refine an ?_;refine AGo.ret ?_;refine ⟨[_], ⟨rfl, trivial⟩, ?_, rfl⟩
     show AV.bool _ = AV.bool _
     congr 1
     exact (fits_use (all_bad hu (by simpa using hbw))).symm
    ·
     refine acf ?_
     have hbw := hb18
     refine AGo.skip ?_;refine AGo.region ?_;refine am 70 ?_;refine aq 71 (q_inc rfl rfl hjl (Nat.le_trans (uses_len t) (by decide))) ?_;refine aa 11 ?_;refine an ?_;exact ⟨j+1, Drop.mk' z22q z17q, all_succ hu hj (by simpa using hbw), by omega⟩
   ·
    refine acf ?_
    have hall := all_end hj (ge_of_idx hb17)
    refine AGo.exit ?_;refine AGo.seq ?_;refine AGo.join (γ := Int) (fun a => ⟨166, (eput (eput (eput (eput (eput (eput eNew 1 (.int .i64 f)) 2 (.int .i64 regs)) 3 (.int .i64 words)) 4 (.ptr 0 1 0 0)) 9 (.ptr 1 1 0 0)) 10 (intsAV t.uses)), (hput (hput (hFrom 2) 0 (.row false 8 [t.cells])) 1 (.row false 8 [[.int .i64 t.op, .int .i64 d, .int .i64 a, .int .i64 0, .int .i64 0, .int .i64 0, .int .i64 0, .int .u32 0]]))⟩) (fun a => a = bif use1 t.op || use2 t.op then t.a else 0) ?_ ?_
    ·
     refine asr ?_;refine am 79 ?_;refine aq 80 (q_len tok rfl rfl rfl rfl rfl) ?_;refine aqb ?_;refine an ?_;refine AGo.split 81 rfl (fun hb19 => ?_) (fun hb19 => ?_)
     ·
      refine act ?_;refine AGo.region ?_;refine af 82 tok ?_;refine al 83 tok ?_;refine af 84 tok ?_;refine AOps.w rfl rfl (o_store tok rfl rfl rfl rfl rfl rfl rfl rfl rfl (by decide) rfl z40q) ?_;refine an ?_;exact ⟨t.a, Sub.mk' z34q z13q, by have h3 := use12 t.op; cases h1 : use1 t.op <;> cases h2 : use2 t.op <;> simp_all [Tac.uses]⟩
     ·
      refine acf ?_;refine AGo.skip ?_;exact ⟨0, Sub.mk' z34q z13q, by have h3 := use12 t.op; cases h1 : use1 t.op <;> cases h2 : use2 t.op <;> simp_all [Tac.uses]⟩
    intro a haa
    refine AGo.seq ?_;refine AGo.join (γ := Int) (fun b => ⟨166, (eput (eput (eput (eput (eput eNew 1 (.int .i64 f)) 2 (.int .i64 regs)) 3 (.int .i64 words)) 4 (.ptr 0 1 0 0)) 9 (.ptr 1 1 0 0)), (hput (hput (hFrom 2) 0 (.row false 8 [t.cells])) 1 (.row false 8 [[.int .i64 t.op, .int .i64 d, .int .i64 a, .int .i64 b, .int .i64 0, .int .i64 0, .int .i64 0, .int .u32 0]]))⟩) (fun b => b = bif use2 t.op then t.b else 0) ?_ ?_
    ·
     refine asr ?_;refine am 85 ?_;refine aq 86 (q_len tok rfl rfl rfl rfl rfl) ?_;refine aqb ?_;refine an ?_;refine AGo.split 87 rfl (fun hb20 => ?_) (fun hb20 => ?_)
     ·
      refine act ?_;refine AGo.region ?_;refine af 88 tok ?_;refine al 89 tok ?_;refine af 90 tok ?_;refine AOps.w rfl rfl (o_store tok rfl rfl rfl rfl rfl rfl rfl rfl rfl (by decide) rfl z40q) ?_;refine an ?_;exact ⟨t.b, Sub.mk' z34q z13q, by have h3 := use12 t.op; cases h1 : use1 t.op <;> cases h2 : use2 t.op <;> simp_all [Tac.uses]⟩
     ·
      refine acf ?_;refine AGo.skip ?_;exact ⟨0, Sub.mk' z34q z13q, by have h3 := use12 t.op; cases h1 : use1 t.op <;> cases h2 : use2 t.op <;> simp_all [Tac.uses]⟩
    intro b hbb
    refine AGo.seq ?_;refine asr ?_;refine af 91 tok ?_;refine al 92 tok ?_;refine an ?_;refine AGo.block ?_;refine asr ?_;refine aqb ?_;refine aa 93 ?_;refine an ?_;refine AGo.split 93 rfl (fun hb21 => ?_) (fun hb21 => ?_)
    ·
     refine act ?_;refine AGo.region ?_;refine af 95 tok ?_;refine al 96 tok ?_;refine af 97 tok ?_;refine AOps.w rfl rfl (o_store tok rfl rfl rfl rfl rfl rfl rfl rfl rfl (by decide) rfl z40q) ?_;refine an ?_;refine asr ?_;refine al 163 tok ?_;refine al 164 tok ?_;refine aq 165 (q_eqStruct tok false rfl rfl rfl (by kernel_rfl) rfl rfl rfl rfl rfl) ?_;refine aa 8 ?_;refine an ?_;refine AGo.ret ?_;refine ⟨[_], ⟨rfl, trivial⟩, ?_, rfl⟩
     show AV.bool _ = AV.bool _
     congr 1
     have hwr : 1 ≤ t.size → t.size ≤ 4096 → IntKind.i64.wrap (words - t.size) = words - t.size := fun h1 h2 => wrap_i64 (by omega) (by omega)
     rw [fits_same hb1 hb2 hd hall z42q]
     subst hdd haa hbb
     clear hd hj hall hwr hw hw2 hb1 hb2
     first | (simp_all [Tac.same, Tac.want, baseOp, arrOp, setsOp, use1, use2]; done) | simp [Tac.same, Tac.want, baseOp, arrOp, *]
    ·
     refine acf ?_;refine asr ?_;refine aqb ?_;refine aa 98 ?_;refine an ?_;refine AGo.split 98 rfl (fun hb22 => ?_) (fun hb22 => ?_)
     ·
      refine act ?_;refine asr ?_;refine af 100 tok ?_;refine al 101 tok ?_;refine af 102 tok ?_;refine AOps.w rfl rfl (o_store tok rfl rfl rfl rfl rfl rfl rfl rfl rfl (by decide) rfl z40q) ?_;refine an ?_;refine asr ?_;refine af 103 tok ?_;refine al 104 tok ?_;refine aqb ?_;refine am 106 ?_;refine AOps.split 106 rfl (fun hb23 => ?_) (fun hb23 => ?_)
      ·
       iterate 3 refine ak _ ?_
       refine apt ?_;refine an ?_;refine act ?_;refine asr ?_;refine aa 8 ?_;refine an ?_;refine AGo.ret ?_;refine ⟨[_], ⟨rfl, trivial⟩, ?_, rfl⟩
       show AV.bool _ = AV.bool _
       congr 1
       exact (fits_rest z42q).symm
      ·
       refine af 107 tok ?_;refine al 108 tok ?_;refine aqb ?_;refine apf ?_;refine an ?_;refine AGo.split 110 rfl (fun hb24 => ?_) (fun hb24 => ?_)
       ·
        refine act ?_;refine asr ?_;refine aa 8 ?_;refine an ?_;refine AGo.ret ?_;refine ⟨[_], ⟨rfl, trivial⟩, ?_, rfl⟩
        show AV.bool _ = AV.bool _
        congr 1
        exact (fits_rest z42q).symm
       ·
        refine acf ?_;refine AGo.skip ?_;refine asr ?_;refine al 163 tok ?_;refine al 164 tok ?_;refine aq 165 (q_eqStruct tok false rfl rfl rfl (by kernel_rfl) rfl rfl rfl rfl rfl) ?_;refine aa 8 ?_;refine an ?_;refine AGo.ret ?_;refine ⟨[_], ⟨rfl, trivial⟩, ?_, rfl⟩
        show AV.bool _ = AV.bool _
        congr 1
        have hwr : 1 ≤ t.size → t.size ≤ 4096 → IntKind.i64.wrap (words - t.size) = words - t.size := fun h1 h2 => wrap_i64 (by omega) (by omega)
        rw [fits_same hb1 hb2 hd hall z42q]
        subst hdd haa hbb
        clear hd hj hall hwr hw hw2 hb1 hb2
        first | (simp_all [Tac.same, Tac.want, baseOp, arrOp, setsOp, use1, use2]; done) | simp [Tac.same, Tac.want, baseOp, arrOp, *]
     ·
      refine acf ?_;refine AGo.seq ?_;refine asr ?_;refine aqb ?_;refine aa 111 ?_;refine an ?_;refine AGo.split 111 rfl (fun hb25 => ?_) (fun hb25 => ?_)
      ·
       refine act ?_;refine AGo.skip ?_;refine act ?_;refine asr ?_;refine af 114 tok ?_;refine al 115 tok ?_;refine af 116 tok ?_;refine AOps.w rfl rfl (o_store tok rfl rfl rfl rfl rfl rfl rfl rfl rfl (by decide) rfl z40q) ?_;refine an ?_;refine asr ?_;refine af 117 tok ?_;refine al 118 tok ?_;refine am 119 ?_;refine ax 120 (o_pure rfl Try.func68 (by kernel_rfl) rfl rfl rfl (within_ok _ _)) ?_;refine aq 121 (q_not rfl rfl) ?_;refine an ?_;refine AGo.split 121 rfl (fun hb26 => ?_) (fun hb26 => ?_)
       ·
        refine act ?_;refine asr ?_;refine aa 8 ?_;refine an ?_;refine AGo.ret ?_;refine ⟨[_], ⟨rfl, trivial⟩, ?_, rfl⟩
        show AV.bool _ = AV.bool _
        congr 1
        exact (fits_rest z42q).symm
       ·
        refine acf ?_;refine AGo.skip ?_;refine asr ?_;refine al 163 tok ?_;refine al 164 tok ?_;refine aq 165 (q_eqStruct tok false rfl rfl rfl (by kernel_rfl) rfl rfl rfl rfl rfl) ?_;refine aa 8 ?_;refine an ?_;refine AGo.ret ?_;refine ⟨[_], ⟨rfl, trivial⟩, ?_, rfl⟩
        show AV.bool _ = AV.bool _
        congr 1
        have hwr : 1 ≤ t.size → t.size ≤ 4096 → IntKind.i64.wrap (words - t.size) = words - t.size := fun h1 h2 => wrap_i64 (by omega) (by omega)
        rw [fits_same hb1 hb2 hd hall z42q]
        subst hdd haa hbb
        clear hd hj hall hwr hw hw2 hb1 hb2
        first | (simp_all [Tac.same, Tac.want, baseOp, arrOp, setsOp, use1, use2]; done) | simp [Tac.same, Tac.want, baseOp, arrOp, *]
      ·
       refine acf ?_;refine AGo.region ?_;refine aqb ?_;refine aa 111 ?_;refine an ?_;refine AGo.split 111 rfl (fun hb27 => ?_) (fun hb27 => ?_)
       ·
        refine act ?_;refine asr ?_;refine af 114 tok ?_;refine al 115 tok ?_;refine af 116 tok ?_;refine AOps.w rfl rfl (o_store tok rfl rfl rfl rfl rfl rfl rfl rfl rfl (by decide) rfl z40q) ?_;refine an ?_;refine asr ?_;refine af 117 tok ?_;refine al 118 tok ?_;refine am 119 ?_;refine ax 120 (o_pure rfl Try.func68 (by kernel_rfl) rfl rfl rfl (within_ok _ _)) ?_;refine aq 121 (q_not rfl rfl) ?_;refine an ?_;refine AGo.split 121 rfl (fun hb28 => ?_) (fun hb28 => ?_)
        ·
         refine act ?_;refine asr ?_;refine aa 8 ?_;refine an ?_;refine AGo.ret ?_;refine ⟨[_], ⟨rfl, trivial⟩, ?_, rfl⟩
         show AV.bool _ = AV.bool _
         congr 1
         exact (fits_rest z42q).symm
        ·
         refine acf ?_;refine AGo.skip ?_;refine asr ?_;refine al 163 tok ?_;refine al 164 tok ?_;refine aq 165 (q_eqStruct tok false rfl rfl rfl (by kernel_rfl) rfl rfl rfl rfl rfl) ?_;refine aa 8 ?_;refine an ?_;refine AGo.ret ?_;refine ⟨[_], ⟨rfl, trivial⟩, ?_, rfl⟩
         show AV.bool _ = AV.bool _
         congr 1
         have hwr : 1 ≤ t.size → t.size ≤ 4096 → IntKind.i64.wrap (words - t.size) = words - t.size := fun h1 h2 => wrap_i64 (by omega) (by omega)
         rw [fits_same hb1 hb2 hd hall z42q]
         subst hdd haa hbb
         clear hd hj hall hwr hw hw2 hb1 hb2
         first | (simp_all [Tac.same, Tac.want, baseOp, arrOp, setsOp, use1, use2]; done) | simp [Tac.same, Tac.want, baseOp, arrOp, *]
       ·
        refine acf ?_;refine AGo.seq ?_;refine asr ?_;refine aqb ?_;refine aa 122 ?_;refine an ?_;refine AGo.split 122 rfl (fun hb29 => ?_) (fun hb29 => ?_)
        ·
         refine act ?_;refine AGo.skip ?_;refine act ?_;refine AGo.seq ?_;refine AGo.draw mix ?_;refine df 125 tok ?_;refine dl 126 tok ?_;refine df 127 tok ?_;refine dl 128 tok ?_;refine df 129 tok ?_;refine DOps.w rfl rfl (o_store tok rfl rfl rfl rfl rfl rfl rfl rfl rfl (by decide) rfl z40q) ?_;refine df 130 tok ?_;refine DOps.w rfl rfl (o_store tok rfl rfl rfl rfl rfl rfl rfl rfl rfl (by decide) rfl z40q) ?_;refine DOps.nil (by kernel_rfl) ?_;refine asr ?_;refine af 131 tok ?_;refine al 132 tok ?_;refine aqb ?_;refine am 134 ?_;refine AOps.split 134 rfl (fun hb30 => ?_) (fun hb30 => ?_)
         ·
          iterate 3 refine ak _ ?_
          refine apt ?_;refine am 139 ?_
          iterate 3 refine ak _ ?_
          refine apt ?_;refine am 144 ?_
          iterate 7 refine ak _ ?_
          refine apt ?_;refine an ?_;refine act ?_;refine asr ?_;refine aa 8 ?_;refine an ?_;refine AGo.ret ?_;refine ⟨[_], ⟨rfl, trivial⟩, ?_, rfl⟩
          show AV.bool _ = AV.bool _
          congr 1
          have hwr : 1 ≤ t.size → t.size ≤ 4096 → IntKind.i64.wrap (words - t.size) = words - t.size := fun h1 h2 => wrap_i64 (by omega) (by omega)
          exact (fits_rest z42q).symm
         ·
          refine af 135 tok ?_;refine al 136 tok ?_;refine aqb ?_;refine apf ?_;refine am 139 ?_;refine AOps.split 139 rfl (fun hb31 => ?_) (fun hb31 => ?_)
          ·
           iterate 3 refine ak _ ?_
           refine apt ?_;refine am 144 ?_
           iterate 7 refine ak _ ?_
           refine apt ?_;refine an ?_;refine act ?_;refine asr ?_;refine aa 8 ?_;refine an ?_;refine AGo.ret ?_;refine ⟨[_], ⟨rfl, trivial⟩, ?_, rfl⟩
           show AV.bool _ = AV.bool _
           congr 1
           have hwr : 1 ≤ t.size → t.size ≤ 4096 → IntKind.i64.wrap (words - t.size) = words - t.size := fun h1 h2 => wrap_i64 (by omega) (by omega)
           exact (fits_rest z42q).symm
          ·
           refine af 140 tok ?_;refine al 141 tok ?_;refine aqb ?_;refine apf ?_;refine am 144 ?_;refine AOps.split 144 rfl (fun hb32 => ?_) (fun hb32 => ?_)
           ·
            iterate 7 refine ak _ ?_
            refine apt ?_;refine an ?_;refine act ?_;refine asr ?_;refine aa 8 ?_;refine an ?_;refine AGo.ret ?_;refine ⟨[_], ⟨rfl, trivial⟩, ?_, rfl⟩
            show AV.bool _ = AV.bool _
            congr 1
            have hwr : 1 ≤ t.size → t.size ≤ 4096 → IntKind.i64.wrap (words - t.size) = words - t.size := fun h1 h2 => wrap_i64 (by omega) (by omega)
            exact (fits_rest z42q).symm
           ·
            refine af 145 tok ?_;refine al 146 tok ?_;refine am 147 ?_;refine af 148 tok ?_;refine al 149 tok ?_;refine aqb ?_;refine aqb ?_;refine apf ?_;refine an ?_;refine AGo.split 152 rfl (fun hb33 => ?_) (fun hb33 => ?_)
            ·
             refine act ?_;refine asr ?_;refine aa 8 ?_;refine an ?_;refine AGo.ret ?_;refine ⟨[_], ⟨rfl, trivial⟩, ?_, rfl⟩
             show AV.bool _ = AV.bool _
             congr 1
             have hwr : 1 ≤ t.size → t.size ≤ 4096 → IntKind.i64.wrap (words - t.size) = words - t.size := fun h1 h2 => wrap_i64 (by omega) (by omega)
             exact (fits_rest z42q).symm
            ·
             refine acf ?_;refine AGo.skip ?_;refine asr ?_;refine al 163 tok ?_;refine al 164 tok ?_;refine aq 165 (q_eqStruct tok false rfl rfl rfl (by kernel_rfl) rfl rfl rfl rfl rfl) ?_;refine aa 8 ?_;refine an ?_;refine AGo.ret ?_;refine ⟨[_], ⟨rfl, trivial⟩, ?_, rfl⟩
             show AV.bool _ = AV.bool _
             congr 1
             have hwr : 1 ≤ t.size → t.size ≤ 4096 → IntKind.i64.wrap (words - t.size) = words - t.size := fun h1 h2 => wrap_i64 (by omega) (by omega)
             rw [fits_same hb1 hb2 hd hall z42q]
             subst hdd haa hbb
             clear hd hj hall hwr hw hw2 hb1 hb2
             first | (simp_all [Tac.same, Tac.want, baseOp, arrOp, setsOp, use1, use2]; done) | simp [Tac.same, Tac.want, baseOp, arrOp, *]
        ·
         refine acf ?_;refine AGo.region ?_;refine aqb ?_;refine aa 122 ?_;refine an ?_;refine AGo.split 122 rfl (fun hb34 => ?_) (fun hb34 => ?_)
         ·
          refine act ?_;refine AGo.seq ?_;refine AGo.draw mix ?_;refine df 125 tok ?_;refine dl 126 tok ?_;refine df 127 tok ?_;refine dl 128 tok ?_;refine df 129 tok ?_;refine DOps.w rfl rfl (o_store tok rfl rfl rfl rfl rfl rfl rfl rfl rfl (by decide) rfl z40q) ?_;refine df 130 tok ?_;refine DOps.w rfl rfl (o_store tok rfl rfl rfl rfl rfl rfl rfl rfl rfl (by decide) rfl z40q) ?_;refine DOps.nil (by kernel_rfl) ?_;refine asr ?_;refine af 131 tok ?_;refine al 132 tok ?_;refine aqb ?_;refine am 134 ?_;refine AOps.split 134 rfl (fun hb35 => ?_) (fun hb35 => ?_)
          ·
           iterate 3 refine ak _ ?_
           refine apt ?_;refine am 139 ?_
           iterate 3 refine ak _ ?_
           refine apt ?_;refine am 144 ?_
           iterate 7 refine ak _ ?_
           refine apt ?_;refine an ?_;refine act ?_;refine asr ?_;refine aa 8 ?_;refine an ?_;refine AGo.ret ?_;refine ⟨[_], ⟨rfl, trivial⟩, ?_, rfl⟩
           show AV.bool _ = AV.bool _
           congr 1
           have hwr : 1 ≤ t.size → t.size ≤ 4096 → IntKind.i64.wrap (words - t.size) = words - t.size := fun h1 h2 => wrap_i64 (by omega) (by omega)
           exact (fits_rest z42q).symm
          ·
           refine af 135 tok ?_;refine al 136 tok ?_;refine aqb ?_;refine apf ?_;refine am 139 ?_;refine AOps.split 139 rfl (fun hb36 => ?_) (fun hb36 => ?_)
           ·
            iterate 3 refine ak _ ?_
            refine apt ?_;refine am 144 ?_
            iterate 7 refine ak _ ?_
            refine apt ?_;refine an ?_;refine act ?_;refine asr ?_;refine aa 8 ?_;refine an ?_;refine AGo.ret ?_;refine ⟨[_], ⟨rfl, trivial⟩, ?_, rfl⟩
            show AV.bool _ = AV.bool _
            congr 1
            have hwr : 1 ≤ t.size → t.size ≤ 4096 → IntKind.i64.wrap (words - t.size) = words - t.size := fun h1 h2 => wrap_i64 (by omega) (by omega)
            exact (fits_rest z42q).symm
           ·
            refine af 140 tok ?_;refine al 141 tok ?_;refine aqb ?_;refine apf ?_;refine am 144 ?_;refine AOps.split 144 rfl (fun hb37 => ?_) (fun hb37 => ?_)
            ·
             iterate 7 refine ak _ ?_
             refine apt ?_;refine an ?_;refine act ?_;refine asr ?_;refine aa 8 ?_;refine an ?_;refine AGo.ret ?_;refine ⟨[_], ⟨rfl, trivial⟩, ?_, rfl⟩
             show AV.bool _ = AV.bool _
             congr 1
             have hwr : 1 ≤ t.size → t.size ≤ 4096 → IntKind.i64.wrap (words - t.size) = words - t.size := fun h1 h2 => wrap_i64 (by omega) (by omega)
             exact (fits_rest z42q).symm
            ·
             refine af 145 tok ?_;refine al 146 tok ?_;refine am 147 ?_;refine af 148 tok ?_;refine al 149 tok ?_;refine aqb ?_;refine aqb ?_;refine apf ?_;refine an ?_;refine AGo.split 152 rfl (fun hb38 => ?_) (fun hb38 => ?_)
             ·
              refine act ?_;refine asr ?_;refine aa 8 ?_;refine an ?_;refine AGo.ret ?_;refine ⟨[_], ⟨rfl, trivial⟩, ?_, rfl⟩
              show AV.bool _ = AV.bool _
              congr 1
              have hwr : 1 ≤ t.size → t.size ≤ 4096 → IntKind.i64.wrap (words - t.size) = words - t.size := fun h1 h2 => wrap_i64 (by omega) (by omega)
              exact (fits_rest z42q).symm
             ·
              refine acf ?_;refine AGo.skip ?_;refine asr ?_;refine al 163 tok ?_;refine al 164 tok ?_;refine aq 165 (q_eqStruct tok false rfl rfl rfl (by kernel_rfl) rfl rfl rfl rfl rfl) ?_;refine aa 8 ?_;refine an ?_;refine AGo.ret ?_;refine ⟨[_], ⟨rfl, trivial⟩, ?_, rfl⟩
              show AV.bool _ = AV.bool _
              congr 1
              have hwr : 1 ≤ t.size → t.size ≤ 4096 → IntKind.i64.wrap (words - t.size) = words - t.size := fun h1 h2 => wrap_i64 (by omega) (by omega)
              rw [fits_same hb1 hb2 hd hall z42q]
              subst hdd haa hbb
              clear hd hj hall hwr hw hw2 hb1 hb2
              first | (simp_all [Tac.same, Tac.want, baseOp, arrOp, setsOp, use1, use2]; done) | simp [Tac.same, Tac.want, baseOp, arrOp, *]
         ·
          refine acf ?_;refine asr ?_;refine aqb ?_;refine aa 153 ?_;refine an ?_;refine AGo.split 153 rfl (fun hb39 => ?_) (fun hb39 => ?_)
          ·
           refine act ?_;refine asr ?_;refine af 155 tok ?_;refine al 156 tok ?_;refine af 157 tok ?_;refine AOps.w rfl rfl (o_store tok rfl rfl rfl rfl rfl rfl rfl rfl rfl (by decide) rfl z40q) ?_;refine an ?_;refine asr ?_;refine af 158 tok ?_;refine al 159 tok ?_;refine am 160 ?_;refine ax 161 (o_pure rfl Try.func68 (by kernel_rfl) rfl rfl rfl (within_ok _ _)) ?_;refine aq 162 (q_not rfl rfl) ?_;refine an ?_;refine AGo.split 162 rfl (fun hb40 => ?_) (fun hb40 => ?_)
           ·
            refine act ?_;refine asr ?_;refine aa 8 ?_;refine an ?_;refine AGo.ret ?_;refine ⟨[_], ⟨rfl, trivial⟩, ?_, rfl⟩
            show AV.bool _ = AV.bool _
            congr 1
            exact (fits_rest z42q).symm
           ·
            refine acf ?_;refine AGo.skip ?_;refine asr ?_;refine al 163 tok ?_;refine al 164 tok ?_;refine aq 165 (q_eqStruct tok false rfl rfl rfl (by kernel_rfl) rfl rfl rfl rfl rfl) ?_;refine aa 8 ?_;refine an ?_;refine AGo.ret ?_;refine ⟨[_], ⟨rfl, trivial⟩, ?_, rfl⟩
            show AV.bool _ = AV.bool _
            congr 1
            have hwr : 1 ≤ t.size → t.size ≤ 4096 → IntKind.i64.wrap (words - t.size) = words - t.size := fun h1 h2 => wrap_i64 (by omega) (by omega)
            rw [fits_same hb1 hb2 hd hall z42q]
            subst hdd haa hbb
            clear hd hj hall hwr hw hw2 hb1 hb2
            first | (simp_all [Tac.same, Tac.want, baseOp, arrOp, setsOp, use1, use2]; done) | simp [Tac.same, Tac.want, baseOp, arrOp, *]
          ·
           refine acf ?_;refine AGo.skip ?_;refine asr ?_;refine al 163 tok ?_;refine al 164 tok ?_;refine aq 165 (q_eqStruct tok false rfl rfl rfl (by kernel_rfl) rfl rfl rfl rfl rfl) ?_;refine aa 8 ?_;refine an ?_;refine AGo.ret ?_;refine ⟨[_], ⟨rfl, trivial⟩, ?_, rfl⟩
           show AV.bool _ = AV.bool _
           congr 1
           have hwr : 1 ≤ t.size → t.size ≤ 4096 → IntKind.i64.wrap (words - t.size) = words - t.size := fun h1 h2 => wrap_i64 (by omega) (by omega)
           rw [fits_same hb1 hb2 hd hall z42q]
           subst hdd haa hbb
           clear hd hj hall hwr hw hw2 hb1 hb2
           first | (simp_all [Tac.same, Tac.want, baseOp, arrOp, setsOp, use1, use2]; done) | simp [Tac.same, Tac.want, baseOp, arrOp, *]
set_option maxRecDepth 100000 in
theorem one_ok (f : BFunc) (number words : Int) (hw : 0 ≤ words) (hw2 : words ≤ 1048576) : APure Try.prog 32 [.agg f.cells, .int .i64 number, .int .i64 words] (fun r => r = .bool (f.one number words)) := by
 refine APure.of_body (n := 68) tok Try.func32 rfl rfl ?_
 refine AGo.seq ?_
 refine AGo.slot 0 rfl (fun H ι v => rel_bfunc) (fun hfit => ?_)
 refine AGo.region ?_
 refine ax 3 (o_box (sz := 2) 0 rfl rfl rfl rfl (Nat.zero_lt_succ _) rfl) ?_
 refine aa 6 ?_
 refine an ?_
 refine AGo.seq ?_
 refine asr ?_
 refine af 9 tok ?_
 refine al 10 tok ?_
 refine aqb ?_
 refine am 12 ?_
 refine AOps.split 12 rfl (fun hb1 => ?_) (fun hb1 => ?_)
 ·
  iterate 3 refine ak _ ?_
  refine apt ?_
  refine am 17 ?_
  iterate 4 refine ak _ ?_
  refine apt ?_
  refine an ?_
  refine act ?_
  refine asr ?_
  refine aa 6 ?_
  refine an ?_
  refine AGo.ret ?_
  refine ⟨[_], ⟨rfl, trivial⟩, ?_, rfl⟩
  show AV.bool _ = AV.bool _
  congr 1
  exact (one_bad (by simp_all <;> omega)).symm
 ·
  refine af 13 tok ?_
  refine al 14 tok ?_
  refine aqb ?_
  refine apf ?_
  refine am 17 ?_
  refine AOps.split 17 rfl (fun hb2 => ?_) (fun hb2 => ?_)
  ·
   iterate 4 refine ak _ ?_
   refine apt ?_
   refine an ?_
   refine act ?_
   refine asr ?_
   refine aa 6 ?_
   refine an ?_
   refine AGo.ret ?_
   refine ⟨[_], ⟨rfl, trivial⟩, ?_, rfl⟩
   show AV.bool _ = AV.bool _
   congr 1
   exact (one_bad (by simp_all <;> omega)).symm
  ·
   refine af 18 tok ?_
   refine al 19 tok ?_
   refine aq 20 (q_len tok rfl rfl rfl rfl rfl) ?_
   refine aqb ?_
   refine apf ?_
   refine an ?_
   refine AGo.split 22 rfl (fun hb3 => ?_) (fun hb3 => ?_)
   ·
    refine act ?_;refine asr ?_;refine aa 6 ?_;refine an ?_;refine AGo.ret ?_;refine ⟨[_], ⟨rfl, trivial⟩, ?_, rfl⟩
    show AV.bool _ = AV.bool _
    congr 1
    exact (one_bad (by simp_all <;> omega)).symm
   ·
    refine acf ?_
    have h0 : 0 ≤ f.regs ∧ f.regs ≤ 4000 ∧ f.blocks.length ≠ 0 := by simp_all <;> omega
    refine AGo.skip ?_;refine AGo.seq ?_;refine asr ?_;refine aa 7 ?_;refine an ?_;refine AGo.block ?_;refine AGo.loopD (γ := Nat) 1 (fun k => ⟨68, (eput (eput (eput (eput eNew 1 (.int .i64 number)) 2 (.int .i64 words)) 3 (.ptr 0 1 0 0)) 7 (.int .i64 (k : Int))), (hput (hFrom 1) 0 (.row false 2 [f.cells]))⟩) (fun k => (f.blocks.take k).all (fun x => x.ok f.blocks.length f.regs number words) = true) (fun k => f.blocks.length - k) 0 (Sub.mk' z34q z13q) rfl (fun _ => hput_free (fun b hb => hFrom_free hb) rfl) ?_
    intro k hk
    refine AGo.seq ?_;refine asr ?_;refine am 23 ?_;refine af 24 tok ?_;refine al 25 tok ?_;refine aq 26 (q_len tok rfl rfl rfl rfl rfl) ?_;refine aqb ?_;refine an ?_;refine AGo.split 27 rfl (fun hb4 => ?_) (fun hb4 => ?_)
    ·
     refine act ?_
     have hkl : k < f.blocks.length := lt_of_idx hb4
     obtain ⟨x, hx⟩ := get_of_lt hkl
     refine AGo.skip ?_;refine AGo.seq ?_;refine AGo.block ?_;refine AGo.seq ?_;refine AGo.seq ?_;refine AGo.draw mix ?_;refine df 30 tok ?_;refine dl 31 tok ?_;refine dm 32 ?_;refine dq 33 (q_index_lst tok rfl rfl rfl rfl rfl rfl (Int.natCast_nonneg _) (idx_map (by assumption)) rfl) ?_;refine dl 34 tok ?_;refine df 35 tok ?_;refine dl 36 tok ?_;refine dq 37 (q_len tok rfl rfl rfl rfl rfl) ?_;refine df 38 tok ?_;refine dl 39 tok ?_;refine dx 40 (o_pure rfl Try.func51 (by kernel_rfl) rfl rfl rfl (ends_ok x _ _)) ?_;refine dq 41 (q_not rfl rfl) ?_;refine DOps.nil (by kernel_rfl) ?_;refine AGo.split 41 rfl (fun hb5 => ?_) (fun hb5 => ?_)
     ·
      refine act ?_
      have hends : x.ends f.blocks.length f.regs = false := by simpa using hb5
      refine asr ?_;refine aa 6 ?_;refine an ?_;refine AGo.ret ?_;refine ⟨[_], ⟨rfl, trivial⟩, ?_, rfl⟩
      show AV.bool _ = AV.bool _
      congr 1
      rw [one_all h0.1 h0.2.1 h0.2.2, all_bad hx (by simp [Block.ok, hends])]
     ·
      refine acf ?_
      have hends : x.ends f.blocks.length f.regs = true := by simpa using hb5
      refine AGo.skip ?_;refine asr ?_;refine aa 8 ?_;refine an ?_;refine AGo.block ?_;refine AGo.loopD (γ := Nat) 1 (fun j => ⟨68, (eput (eput (eput (eput (eput eNew 1 (.int .i64 number)) 2 (.int .i64 words)) 3 (.ptr 0 1 0 0)) 7 (.int .i64 (k : Int))) 8 (.int .i64 (j : Int))), (hput (hFrom 1) 0 (.row false 2 [f.cells]))⟩) (fun j => (x.ins.take j).all (fun t => t.fits number f.regs words) = true) (fun j => x.ins.length - j) 0 (Sub.mk' z34q z13q) rfl (fun _ => hput_free (fun b hb => hFrom_free hb) rfl) ?_
      intro j hj
      refine AGo.seq ?_;refine asr ?_;refine am 42 ?_;refine af 43 tok ?_;refine al 44 tok ?_;refine am 45 ?_;refine aq 46 (q_index_lst tok rfl rfl rfl rfl rfl rfl (Int.natCast_nonneg _) (idx_map (by assumption)) rfl) ?_;refine af 47 tok ?_;refine al 48 tok ?_;refine aq 49 (q_len tok rfl rfl rfl rfl rfl) ?_;refine aqb ?_;refine an ?_;refine AGo.split 50 rfl (fun hb6 => ?_) (fun hb6 => ?_)
      ·
       refine act ?_
       have hjl : j < x.ins.length := lt_of_idx hb6
       obtain ⟨u, hu⟩ := get_of_lt hjl
       refine AGo.skip ?_;refine AGo.seq ?_;refine AGo.block ?_;refine AGo.seq ?_;refine AGo.draw mix ?_;refine df 53 tok ?_;refine dl 54 tok ?_;refine dm 55 ?_;refine dq 56 (q_index_lst tok rfl rfl rfl rfl rfl rfl (Int.natCast_nonneg _) (idx_map (by assumption)) rfl) ?_;refine df 57 tok ?_;refine dl 58 tok ?_;refine dm 59 ?_;refine dq 60 (q_index_lst tok rfl rfl rfl rfl rfl rfl (Int.natCast_nonneg _) (idx_map (by assumption)) rfl) ?_;refine dl 61 tok ?_;refine dm 62 ?_;refine df 63 tok ?_;refine dl 64 tok ?_;refine dm 65 ?_;refine dx 66 (o_pure rfl Try.func52 (by kernel_rfl) rfl rfl rfl (fits_ok u _ _ _ hw hw2)) ?_;refine dq 67 (q_not rfl rfl) ?_;refine DOps.nil (by kernel_rfl) ?_;refine AGo.split 67 rfl (fun hb7 => ?_) (fun hb7 => ?_)
       ·
        refine act ?_
        have hbw := hb7
        refine asr ?_;refine aa 6 ?_;refine an ?_;refine AGo.ret ?_;refine ⟨[_], ⟨rfl, trivial⟩, ?_, rfl⟩
        show AV.bool _ = AV.bool _
        congr 1
        rw [one_all h0.1 h0.2.1 h0.2.2, all_bad hx (by simp only [Block.ok, all_bad (p := fun t => Tac.fits t number f.regs words) hu (by simpa using hbw), Bool.and_false])]
       ·
        refine acf ?_
        have hbw := hb7
        refine AGo.skip ?_;refine AGo.region ?_;refine am 51 ?_;refine aq 52 (q_inc rfl rfl hjl (hfit.2 x (List.mem_of_getElem? hx))) ?_;refine aa 8 ?_;refine an ?_;exact ⟨j+1, Drop.mk' z22q z17q, all_succ hu hj (by simpa using hbw), by omega⟩
      ·
       refine acf ?_
       have hins := all_end hj (ge_of_idx hb6)
       refine AGo.exit ?_;refine AGo.region ?_;refine am 28 ?_;refine aq 29 (q_inc rfl rfl hkl hfit.1) ?_;refine aa 7 ?_;refine an ?_;exact ⟨k+1, Drop.mk' z22q z17q, all_succ hx hk (by simp [Block.ok, hends, hins]), by omega⟩
    ·
     refine acf ?_
     have hall := all_end hk (ge_of_idx hb4)
     refine AGo.exit ?_;refine asr ?_;refine aa 6 ?_;refine an ?_;refine AGo.ret ?_;refine ⟨[_], ⟨rfl, trivial⟩, ?_, rfl⟩
     show AV.bool _ = AV.bool _
     congr 1
     rw [one_all h0.1 h0.2.1 h0.2.2, hall]
set_option maxRecDepth 100000 in
theorem right_ok (b : Blocks) : APure Try.prog 15 [.agg b.cells] (fun r => r = .bool b.right) := by
 refine APure.of_body (n := 35) tok Try.func15 rfl rfl ?_
 refine AGo.seq ?_
 refine AGo.slot 0 rfl (fun H ι v => rel_prog) (fun hfit => ?_)
 refine AGo.region ?_
 refine ax 1 (o_box (sz := 2) 0 rfl rfl rfl rfl (Nat.zero_lt_succ _) rfl) ?_
 refine aa 2 ?_
 refine an ?_
 refine AGo.seq ?_
 refine asr ?_
 refine af 4 tok ?_
 refine al 5 tok ?_
 refine aqb ?_
 refine am 7 ?_
 refine AOps.split 7 rfl (fun hb1 => ?_) (fun hb1 => ?_)
 ·
  iterate 3 refine ak _ ?_
  refine apt ?_
  refine am 12 ?_
  iterate 4 refine ak _ ?_
  refine apt ?_
  refine an ?_
  refine act ?_
  refine asr ?_
  refine aa 2 ?_
  refine an ?_
  refine AGo.ret ?_
  refine ⟨[_], ⟨rfl, trivial⟩, ?_, rfl⟩
  show AV.bool _ = AV.bool _
  congr 1
  exact (right_bad (by simp_all <;> omega)).symm
 ·
  refine af 8 tok ?_
  refine al 9 tok ?_
  refine aqb ?_
  refine apf ?_
  refine am 12 ?_
  refine AOps.split 12 rfl (fun hb2 => ?_) (fun hb2 => ?_)
  ·
   iterate 4 refine ak _ ?_
   refine apt ?_
   refine an ?_
   refine act ?_
   refine asr ?_
   refine aa 2 ?_
   refine an ?_
   refine AGo.ret ?_
   refine ⟨[_], ⟨rfl, trivial⟩, ?_, rfl⟩
   show AV.bool _ = AV.bool _
   congr 1
   exact (right_bad (by simp_all <;> omega)).symm
  ·
   refine af 13 tok ?_
   refine al 14 tok ?_
   refine aq 15 (q_len tok rfl rfl rfl rfl rfl) ?_
   refine aqb ?_
   refine apf ?_
   refine an ?_
   refine AGo.split 17 rfl (fun hb3 => ?_) (fun hb3 => ?_)
   ·
    refine act ?_;refine asr ?_;refine aa 2 ?_;refine an ?_;refine AGo.ret ?_;refine ⟨[_], ⟨rfl, trivial⟩, ?_, rfl⟩
    show AV.bool _ = AV.bool _
    congr 1
    exact (right_bad (by simp_all <;> omega)).symm
   ·
    refine acf ?_
    have h0 : 0 ≤ b.words ∧ b.words ≤ 1048576 ∧ b.funcs.length ≠ 0 := by simp_all <;> omega
    refine AGo.skip ?_;refine AGo.seq ?_;refine asr ?_;refine aa 3 ?_;refine an ?_;refine AGo.block ?_;refine AGo.loopD (γ := Nat) 1 (fun k => ⟨35, (eput (eput eNew 1 (.ptr 0 1 0 0)) 3 (.int .i64 (k : Int))), (hput (hFrom 1) 0 (.row false 2 [b.cells]))⟩) (fun k => (b.funcs.zipIdx.take k).all (fun p => p.1.one (p.2 : Int) b.words) = true) (fun k => b.funcs.length - k) 0 (Sub.mk' z34q z13q) rfl (fun _ => hput_free (fun b hb => hFrom_free hb) rfl) ?_
    intro k hk
    refine AGo.seq ?_;refine asr ?_;refine am 18 ?_;refine af 19 tok ?_;refine al 20 tok ?_;refine aq 21 (q_len tok rfl rfl rfl rfl rfl) ?_;refine aqb ?_;refine an ?_;refine AGo.split 22 rfl (fun hb4 => ?_) (fun hb4 => ?_)
    ·
     refine act ?_
     have hkl : k < b.funcs.length := lt_of_idx hb4
     obtain ⟨x, hx⟩ := get_of_lt hkl
     refine AGo.skip ?_;refine AGo.seq ?_;refine AGo.block ?_;refine AGo.seq ?_;refine AGo.draw mix ?_;refine df 25 tok ?_;refine dl 26 tok ?_;refine dm 27 ?_;refine dq 28 (q_index_lst tok rfl rfl rfl rfl rfl rfl (Int.natCast_nonneg _) (idx_map (by assumption)) rfl) ?_;refine dl 29 tok ?_;refine dm 30 ?_;refine df 31 tok ?_;refine dl 32 tok ?_;refine dx 33 (o_pure rfl Try.func32 (by kernel_rfl) rfl rfl rfl (one_ok x _ _ h0.1 h0.2.1)) ?_;refine dq 34 (q_not rfl rfl) ?_;refine DOps.nil (by kernel_rfl) ?_;refine AGo.split 34 rfl (fun hb5 => ?_) (fun hb5 => ?_)
     ·
      refine act ?_
      have hone := hb5
      refine asr ?_;refine aa 2 ?_;refine an ?_;refine AGo.ret ?_;refine ⟨[_], ⟨rfl, trivial⟩, ?_, rfl⟩
      show AV.bool _ = AV.bool _
      congr 1
      rw [right_all h0.1 h0.2.1 h0.2.2, all_bad (zipIdx_get hx) (by simpa using hone)]
     ·
      refine acf ?_
      have hone := hb5
      refine AGo.skip ?_;refine AGo.region ?_;refine am 23 ?_;refine aq 24 (q_inc rfl rfl hkl hfit.1) ?_;refine aa 3 ?_;refine an ?_;exact ⟨k+1, Drop.mk' z22q z17q, all_succ (zipIdx_get hx) hk (by simpa using hone), by omega⟩
    ·
     refine acf ?_
     have hall := all_end hk (by rw [List.length_zipIdx]; exact ge_of_idx hb4)
     refine AGo.exit ?_;refine asr ?_;refine aa 2 ?_;refine an ?_;refine AGo.ret ?_;refine ⟨[_], ⟨rfl, trivial⟩, ?_, rfl⟩
     show AV.bool _ = AV.bool _
     congr 1
     rw [right_all h0.1 h0.2.1 h0.2.2, hall]
set_option maxRecDepth 100000 in
theorem step_ok (b : Blocks) (s : ByteArray) (fuel : Int) (m : Mach) (hfu : fuel ≤ 9223372036854775807) : ACall Try.prog 54 [.ptr 0 1 0 0] (mheap hNew b s fuel m) (fun r h' => r = .bool (mstep fuel m).1 ∧ HSub (mheap hNone b s fuel (mstep fuel m).2) h') := by
 refine ACall.of_body (n := 22) tok Try.func54 rfl rfl ?_
 refine asr ?_
 refine aa 2 ?_
 refine an ?_
 refine AGo.seq ?_
 refine AGo.seq ?_
 refine AGo.draw mix ?_
 refine dm 3 ?_
 refine dq 4 (q_nilCheck rfl rfl rfl) ?_
 refine df 5 tok ?_
 refine dl 6 tok ?_
 refine dm 7 ?_
 refine dq 8 (q_nilCheck rfl rfl rfl) ?_
 refine df 9 tok ?_
 refine dl 10 tok ?_
 refine dq 11 (q_bin rfl rfl rfl rfl) ?_
 refine DOps.nil (by kernel_rfl) ?_
 refine AGo.split 11 rfl (fun hb1 => ?_) (fun hb1 => ?_)
 ·
  refine act ?_
  refine asr ?_
  refine am 12 ?_
  refine aq 13 (q_nilCheck rfl rfl rfl) ?_
  refine af 14 tok ?_
  refine AOps.w rfl rfl (o_store tok rfl rfl rfl rfl rfl rfl rfl rfl rfl (by decide) rfl z40q) ?_
  refine an ?_
  refine asr ?_
  refine aa 2 ?_
  refine an ?_
  refine AGo.ret ?_
  rw [mstep_no hb1]
  exact ⟨[_], ⟨rfl, trivial⟩, rfl, HSub.put (HSub.put (HSub.put (HSub.none _) rfl) rfl) rfl⟩
 ·
  refine acf ?_
  refine AGo.skip ?_
  refine asr ?_
  refine am 15 ?_
  refine aq 16 (q_nilCheck rfl rfl rfl) ?_
  refine af 17 tok ?_
  refine al 18 tok ?_
  refine aq 19 (q_inc rfl rfl (show m.steps < fuel.toNat by have h := hb1; simp at h; omega) (by simp only [maxLen]; omega)) ?_
  refine aq 20 (q_nilCheck rfl rfl rfl) ?_
  refine af 21 tok ?_
  refine AOps.w rfl rfl (o_store tok rfl rfl rfl rfl rfl rfl rfl rfl rfl (by decide) rfl z40q) ?_
  refine an ?_
  refine asr ?_
  refine aa 2 ?_
  refine an ?_
  refine AGo.ret ?_
  rw [mstep_yes hb1]
  exact ⟨[_], ⟨rfl, trivial⟩, rfl, HSub.put (HSub.put (HSub.put (HSub.none _) rfl) rfl) rfl⟩
set_option maxRecDepth 100000 in
theorem one_okR (b : Blocks) (s : ByteArray) (fuel : Int) (call : Int → Mach → Mach) (t : Tac) (regs : List Int) (m : Mach) (n R : Nat) (ht : TacIn t n R b.words.toNat) (hr : allR regs) (hlen : regs.length = R) (hm : m.good b.words.toNat) (h0 : m.fin = 0) (hbw : b.words ≤ 1048576) (hs : s.size ≤ 9223372036854775807) (hwn : isW t.n)
    (hcall : ∀ (i : Int), 0 ≤ i → i < n → ACall Try.prog 34 [.ptr 0 1 0 0, .int .i64 i] (mheap hNew b s fuel m) (fun r h' => r = .tup [] ∧ HSub (mheap hNone b s fuel (call i m)) h')) : ACall Try.prog 55 [.ptr 0 1 0 0, .agg t.cells, .ref 4 R 0 R] (hput (mheap hNew b s fuel m) 4 (.row true 1 (regCells regs))) (fun r h' => r = .tup [] ∧ HSub (hput (mheap hNone b s fuel (mone call s t regs m).2) 4 (.row true 1 (regCells (mone call s t regs m).1))) h') := by
 refine ACall.of_body (n := 211) tok Try.func55 rfl rfl ?_
 refine asr ?_
 refine ax 4 (o_box (sz := 8) 5 rfl rfl rfl rfl (Nat.zero_lt_succ _) rfl) ?_
 refine an ?_
 refine asr ?_
 refine af 8 tok ?_
 refine al 9 tok ?_
 refine an ?_
 refine AGo.block ?_
 refine asr ?_
 refine aqb ?_
 refine aa 10 ?_
 refine an ?_
 refine AGo.split 10 rfl (fun hb1 => ?_) (fun hb1 => ?_)
 ·
  refine act ?_
  have ho : t.op = 1 := by simpa using hb1
  have hd := ht.d (by simp [setsOp, ho])
  refine AGo.region ?_
  refine am 12 ?_
  refine af 13 tok ?_
  refine al 14 tok ?_
  refine af 15 tok ?_
  refine al 16 tok ?_
  refine aq 17 (q_index_ref tok rfl rfl rfl rfl rfl rfl rfl (by rw [regCells_len, hlen]) rfl hd.1 (by have := hd.2; omega)) ?_
  refine AOps.w rfl rfl (o_store tok rfl rfl rfl rfl rfl rfl (by rw [regCells_len, hlen]) (rcell (by have := hd; omega)) rfl (by decide) rfl z40q) ?_
  refine an ?_
  refine ⟨[], trivial, rfl, ?_⟩
  rw [mone1 ho]
  exact HSub.put (HSub.put (HSub.put (HSub.put (HSub.none _) rfl) rfl) rfl) z20q
 ·
  refine acf ?_
  refine asr ?_
  refine aqb ?_
  refine aa 18 ?_
  refine an ?_
  refine AGo.split 18 rfl (fun hb2 => ?_) (fun hb2 => ?_)
  ·
   refine act ?_
   have ho : t.op = 2 := by simpa using hb2
   have hd := ht.d (by simp [setsOp, ho])
   have ha := ht.a (by simp [use1, use2, ho])
   refine AGo.draw mix ?_
   refine dm 20 ?_
   refine df 21 tok ?_
   refine dl 22 tok ?_
   refine dm 23 ?_
   refine df 24 tok ?_
   refine dl 25 tok ?_
   refine dq 26 (q_index_ref tok rfl rfl rfl rfl rfl rfl rfl (by rw [regCells_len, hlen]) rfl ha.1 (by have := ha.2; omega)) ?_
   refine dq 27 (q_load tok rfl rfl rfl (.ptr _ _ _ _ _ _ _ _ rfl (by rw [regCells_len, hlen]) (rcell (by have := ha; omega))) rfl) ?_
   refine dq 28 (q_index_ref tok rfl rfl rfl rfl rfl rfl rfl (by rw [regCells_len, hlen]) rfl hd.1 (by have := hd.2; omega)) ?_
   refine DOps.w rfl rfl (o_store tok rfl rfl rfl rfl rfl rfl (by rw [regCells_len, hlen]) (rcell (by have := hd; omega)) rfl (by decide) rfl z40q) ?_
   refine DOps.nil (by kernel_rfl) ?_
   refine ⟨[], trivial, rfl, ?_⟩
   rw [mone2 ho]
   exact HSub.put (HSub.put (HSub.put (HSub.put (HSub.none _) rfl) rfl) rfl) z20q
  ·
   refine acf ?_
   refine asr ?_
   refine aqb ?_
   refine aa 29 ?_
   refine an ?_
   refine AGo.split 29 rfl (fun hb3 => ?_) (fun hb3 => ?_)
   ·
    refine act ?_
    have ho : t.op = 3 := by simpa using hb3
    have hd := ht.d (by simp [setsOp, ho])
    have ha := ht.a (by simp [use1, use2, ho])
    have hb := ht.b (by simp [use2, ho])
    refine AGo.seq ?_;refine AGo.draw mix ?_;refine df 32 tok ?_;refine dl 33 tok ?_;refine dm 34 ?_;refine df 35 tok ?_;refine dl 36 tok ?_;refine dq 37 (q_index_ref tok rfl rfl rfl rfl rfl rfl rfl (by rw [regCells_len, hlen]) rfl ha.1 (by have := ha.2; omega)) ?_;refine dq 38 (q_load tok rfl rfl rfl (.ptr _ _ _ _ _ _ _ _ rfl (by rw [regCells_len, hlen]) (rcell (by have := ha; omega))) rfl) ?_;refine dm 39 ?_;refine df 40 tok ?_;refine dl 41 tok ?_;refine dq 42 (q_index_ref tok rfl rfl rfl rfl rfl rfl rfl (by rw [regCells_len, hlen]) rfl hb.1 (by have := hb.2; omega)) ?_;refine dq 43 (q_load tok rfl rfl rfl (.ptr _ _ _ _ _ _ _ _ rfl (by rw [regCells_len, hlen]) (rcell (by have := hb; omega))) rfl) ?_;refine dx 44 (o_pure rfl Try.func74 (by kernel_rfl) rfl rfl rfl (rapply_ok t.k (rget regs t.a) (rget regs t.b) (rget_w hr _) (rget_w hr _))) ?_;refine dm 31 ?_;refine dq 45 (q_extract rfl rfl rfl) ?_
    refine dq 46 (q_extract rfl rfl rfl) ?_;refine da 6 ?_;refine da 7 ?_;refine DOps.nil (by kernel_rfl) ?_;refine AGo.seq ?_;refine asr ?_;refine am 47 ?_;refine aqb ?_;refine an ?_;refine AGo.split 48 rfl (fun hb4 => ?_) (fun hb4 => ?_)
    ·
     refine act ?_;refine asr ?_;refine am 49 ?_;refine aq 50 (q_nilCheck rfl rfl rfl) ?_;refine af 51 tok ?_;refine AOps.w rfl rfl (o_store tok rfl rfl rfl rfl rfl rfl rfl rfl rfl (by decide) rfl z40q) ?_;refine an ?_;refine AGo.ret ?_;refine ⟨[], trivial, rfl, ?_⟩
     rw [mone3z ho hb4]
     exact HSub.put (HSub.put (HSub.put (HSub.put (HSub.none _) rfl) rfl) rfl) rfl
    ·
     refine acf ?_;refine AGo.skip ?_;refine AGo.region ?_;refine am 52 ?_;refine af 53 tok ?_;refine al 54 tok ?_;refine am 55 ?_;refine aq 56 (q_index_ref tok rfl rfl rfl rfl rfl rfl rfl (by rw [regCells_len, hlen]) rfl hd.1 (by have := hd.2; omega)) ?_;refine AOps.w rfl rfl (o_store tok rfl rfl rfl rfl rfl rfl (by rw [regCells_len, hlen]) (rcell (by have := hd; omega)) rfl (by decide) rfl z40q) ?_;refine an ?_;refine ⟨[], trivial, rfl, ?_⟩
     rw [mone3 ho hb4]
     exact HSub.put (HSub.put (HSub.put (HSub.put (HSub.none _) rfl) rfl) rfl) z20q
   ·
    refine acf ?_;refine asr ?_;refine aqb ?_;refine aa 57 ?_;refine an ?_;refine AGo.split 57 rfl (fun hb5 => ?_) (fun hb5 => ?_)
    ·
     refine act ?_
     have ho : t.op = 4 := by simpa using hb5
     have hd := ht.d (by simp [setsOp, ho])
     have hbs := ht.base (by simp [ho])
     refine AGo.draw mix ?_;refine dm 59 ?_;refine df 60 tok ?_;refine dl 61 tok ?_;refine dm 62 ?_;refine dq 63 (q_nilCheck rfl rfl rfl) ?_;refine df 64 tok ?_;refine dl 65 tok ?_;refine df 66 tok ?_;refine dl 67 tok ?_;refine dq 68 (q_index_ref tok rfl rfl rfl rfl rfl rfl rfl (by rw [regCells_len, hm.len]) rfl hbs.1 (by have := hbs.2; omega)) ?_;refine dq 69 (q_load tok rfl rfl rfl (.ptr _ _ _ _ _ _ _ _ rfl (by rw [regCells_len, hm.len]) (rcell (by have := hbs; have := hm.len; omega))) rfl) ?_;refine dq 70 (q_index_ref tok rfl rfl rfl rfl rfl rfl rfl (by rw [regCells_len, hlen]) rfl hd.1 (by have := hd.2; omega)) ?_;refine DOps.w rfl rfl (o_store tok rfl rfl rfl rfl rfl rfl (by rw [regCells_len, hlen]) (rcell (by have := hd; omega)) rfl (by decide) rfl z40q) ?_;refine DOps.nil (by kernel_rfl) ?_;refine ⟨[], trivial, rfl, ?_⟩
     rw [mone4 ho]
     exact HSub.put (HSub.put (HSub.put (HSub.put (HSub.none _) rfl) rfl) rfl) z20q
    ·
     refine acf ?_;refine asr ?_;refine aqb ?_;refine aa 71 ?_;refine an ?_;refine AGo.split 71 rfl (fun hb6 => ?_) (fun hb6 => ?_)
     ·
      refine act ?_
      have ho : t.op = 5 := by simpa using hb6
      have ha := ht.a (by simp [use1, use2, ho])
      have hbs := ht.base (by simp [ho])
      refine AGo.draw mix ?_;refine dm 73 ?_;refine dq 74 (q_nilCheck rfl rfl rfl) ?_;refine df 75 tok ?_;refine dl 76 tok ?_;refine df 77 tok ?_;refine dl 78 tok ?_;refine dm 79 ?_;refine df 80 tok ?_;refine dl 81 tok ?_;refine dq 82 (q_index_ref tok rfl rfl rfl rfl rfl rfl rfl (by rw [regCells_len, hlen]) rfl ha.1 (by have := ha.2; omega)) ?_;refine dq 83 (q_load tok rfl rfl rfl (.ptr _ _ _ _ _ _ _ _ rfl (by rw [regCells_len, hlen]) (rcell (by have := ha; omega))) rfl) ?_;refine dq 84 (q_index_ref tok rfl rfl rfl rfl rfl rfl rfl (by rw [regCells_len, hm.len]) rfl hbs.1 (by have := hbs.2; omega)) ?_;refine DOps.w rfl rfl (o_store tok rfl rfl rfl rfl rfl rfl (by rw [regCells_len, hm.len]) (rcell (by have := hbs; have := hm.len; omega)) rfl (by decide) rfl z40q) ?_;refine DOps.nil (by kernel_rfl) ?_;refine ⟨[], trivial, rfl, ?_⟩
      rw [mone5 ho]
      exact HSub.put (HSub.put (HSub.put (HSub.put (HSub.none _) rfl) z20q) rfl) rfl
     ·
      refine acf ?_;refine AGo.seq ?_;refine asr ?_;refine aqb ?_;refine aa 85 ?_;refine an ?_;refine AGo.split 85 rfl (fun hb7 => ?_) (fun hb7 => ?_)
      ·
       refine act ?_;refine AGo.skip ?_;refine act ?_;refine AGo.seq ?_;refine AGo.seq ?_;refine AGo.draw mix ?_
       have ho : t.op = 6 ∨ t.op = 7 := by simp_all
       have har := ht.arr ho
       have ha := ht.a (by rcases ho with ho | ho <;> simp [use1, use2, ho])
       have hwa := rget_w hr t.a
       have hwa1 := hwa.1
       have hwa2 := hwa.2
       refine dm 88 ?_;refine df 89 tok ?_;refine dl 90 tok ?_;refine dq 91 (q_index_ref tok rfl rfl rfl rfl rfl rfl rfl (by rw [regCells_len, hlen]) rfl ha.1 (by have := ha.2; omega)) ?_;refine dq 92 (q_load tok rfl rfl rfl (.ptr _ _ _ _ _ _ _ _ rfl (by rw [regCells_len, hlen]) (rcell (by have := ha; omega))) rfl) ?_;refine dq 93 (q_convTo tok rfl rfl rfl rfl rfl (r := rget regs t.a) (by rw [IntKind.wrap_u64]; omega)) ?_;refine df 94 tok ?_;refine dl 95 tok ?_;refine dq 96 (q_convTo tok rfl rfl rfl rfl rfl (r := t.size) (by rw [IntKind.wrap_u64]; omega)) ?_;refine dq 97 (q_bin rfl rfl rfl rfl) ?_;refine DOps.nil (by kernel_rfl) ?_;refine AGo.split 97 rfl (fun hb8 => ?_) (fun hb8 => ?_)
       ·
        refine act ?_
        have hsz := hb8
        refine asr ?_;refine am 98 ?_;refine aq 99 (q_nilCheck rfl rfl rfl) ?_;refine af 100 tok ?_;refine AOps.w rfl rfl (o_store tok rfl rfl rfl rfl rfl rfl rfl rfl rfl (by decide) rfl z40q) ?_;refine an ?_;refine AGo.ret ?_;refine ⟨[], trivial, rfl, ?_⟩
        rw [mone67z ho hsz]
        exact HSub.put (HSub.put (HSub.put (HSub.put (HSub.none _) rfl) rfl) rfl) rfl
       ·
        refine acf ?_
        have hsz := hb8
        have hsz2 : rget regs t.a < t.size := by simpa using hb8
        have hidx : 0 ≤ t.base + rget regs t.a ∧ t.base + rget regs t.a < b.words.toNat := by omega
        refine AGo.skip ?_;refine asr ?_;refine af 101 tok ?_;refine al 102 tok ?_;refine aqb ?_;refine an ?_;refine AGo.split 103 rfl (fun hb9 => ?_) (fun hb9 => ?_)
        ·
         refine act ?_
         have ho6 : t.op = 6 := by simpa using hb9
         have hd := ht.d (by simp [setsOp, ho6])
         refine AGo.draw mix ?_;refine dm 104 ?_;refine df 105 tok ?_;refine dl 106 tok ?_;refine dm 107 ?_;refine dq 108 (q_nilCheck rfl rfl rfl) ?_;refine df 109 tok ?_;refine dl 110 tok ?_;refine df 111 tok ?_;refine dl 112 tok ?_;refine dm 113 ?_;refine df 114 tok ?_;refine dl 115 tok ?_;refine dq 116 (q_index_ref tok rfl rfl rfl rfl rfl rfl rfl (by rw [regCells_len, hlen]) rfl ha.1 (by have := ha.2; omega)) ?_;refine dq 117 (q_load tok rfl rfl rfl (.ptr _ _ _ _ _ _ _ _ rfl (by rw [regCells_len, hlen]) (rcell (by have := ha; omega))) rfl) ?_;refine dq 118 (q_convTo tok rfl rfl rfl rfl rfl (r := rget regs t.a) (by exact wrap_i64 (by omega) (by omega))) ?_;refine dq 119 (q_bin (r := .int .i64 (t.base + rget regs t.a)) rfl rfl rfl z29q) ?_;refine dq 120 (q_index_ref tok rfl rfl rfl rfl rfl rfl rfl (by rw [regCells_len, hm.len]) rfl hidx.1 (by have := hidx.2; omega)) ?_;refine dq 121 (q_load tok rfl rfl rfl (.ptr _ _ _ _ _ _ _ _ rfl (by rw [regCells_len, hm.len]) (rcell (by have := hidx; have := hm.len; omega))) rfl) ?_
         refine dq 122 (q_index_ref tok rfl rfl rfl rfl rfl rfl rfl (by rw [regCells_len, hlen]) rfl hd.1 (by have := hd.2; omega)) ?_;refine DOps.w rfl rfl (o_store tok rfl rfl rfl rfl rfl rfl (by rw [regCells_len, hlen]) (rcell (by have := hd; omega)) rfl (by decide) rfl z40q) ?_;refine DOps.nil (by kernel_rfl) ?_;refine ⟨[], trivial, rfl, ?_⟩
         rw [mone6 ho6 hsz]
         exact HSub.put (HSub.put (HSub.put (HSub.put (HSub.none _) rfl) rfl) rfl) z20q
        ·
         refine acf ?_
         have ho7 : t.op = 7 := by have h := hb9; simp at h; omega
         have hb := ht.b (by simp [use2, ho7])
         refine AGo.draw mix ?_;refine dm 123 ?_;refine dq 124 (q_nilCheck rfl rfl rfl) ?_;refine df 125 tok ?_;refine dl 126 tok ?_;refine df 127 tok ?_;refine dl 128 tok ?_;refine dm 129 ?_;refine df 130 tok ?_;refine dl 131 tok ?_;refine dq 132 (q_index_ref tok rfl rfl rfl rfl rfl rfl rfl (by rw [regCells_len, hlen]) rfl ha.1 (by have := ha.2; omega)) ?_;refine dq 133 (q_load tok rfl rfl rfl (.ptr _ _ _ _ _ _ _ _ rfl (by rw [regCells_len, hlen]) (rcell (by have := ha; omega))) rfl) ?_;refine dq 134 (q_convTo tok rfl rfl rfl rfl rfl (r := rget regs t.a) (by exact wrap_i64 (by omega) (by omega))) ?_;refine dq 135 (q_bin (r := .int .i64 (t.base + rget regs t.a)) rfl rfl rfl z29q) ?_;refine dm 136 ?_;refine df 137 tok ?_;refine dl 138 tok ?_;refine dq 139 (q_index_ref tok rfl rfl rfl rfl rfl rfl rfl (by rw [regCells_len, hlen]) rfl hb.1 (by have := hb.2; omega)) ?_;refine dq 140 (q_load tok rfl rfl rfl (.ptr _ _ _ _ _ _ _ _ rfl (by rw [regCells_len, hlen]) (rcell (by have := hb; omega))) rfl) ?_
         refine dq 141 (q_index_ref tok rfl rfl rfl rfl rfl rfl rfl (by rw [regCells_len, hm.len]) rfl hidx.1 (by have := hidx.2; omega)) ?_;refine DOps.w rfl rfl (o_store tok rfl rfl rfl rfl rfl rfl (by rw [regCells_len, hm.len]) (rcell (by have := hidx; have := hm.len; omega)) rfl (by decide) rfl z40q) ?_;refine DOps.nil (by kernel_rfl) ?_;refine ⟨[], trivial, rfl, ?_⟩
         rw [mone7 ho7 hsz]
         exact HSub.put (HSub.put (HSub.put (HSub.put (HSub.none _) rfl) z20q) rfl) rfl
      ·
       refine acf ?_;refine AGo.region ?_;refine aqb ?_;refine aa 85 ?_;refine an ?_;refine AGo.split 85 rfl (fun hb10 => ?_) (fun hb10 => ?_)
       ·
        refine act ?_;refine AGo.seq ?_;refine AGo.seq ?_;refine AGo.draw mix ?_
        have ho : t.op = 6 ∨ t.op = 7 := by simp_all
        have har := ht.arr ho
        have ha := ht.a (by rcases ho with ho | ho <;> simp [use1, use2, ho])
        have hwa := rget_w hr t.a
        have hwa1 := hwa.1
        have hwa2 := hwa.2
        refine dm 88 ?_;refine df 89 tok ?_;refine dl 90 tok ?_;refine dq 91 (q_index_ref tok rfl rfl rfl rfl rfl rfl rfl (by rw [regCells_len, hlen]) rfl ha.1 (by have := ha.2; omega)) ?_;refine dq 92 (q_load tok rfl rfl rfl (.ptr _ _ _ _ _ _ _ _ rfl (by rw [regCells_len, hlen]) (rcell (by have := ha; omega))) rfl) ?_;refine dq 93 (q_convTo tok rfl rfl rfl rfl rfl (r := rget regs t.a) (by rw [IntKind.wrap_u64]; omega)) ?_;refine df 94 tok ?_;refine dl 95 tok ?_;refine dq 96 (q_convTo tok rfl rfl rfl rfl rfl (r := t.size) (by rw [IntKind.wrap_u64]; omega)) ?_;refine dq 97 (q_bin rfl rfl rfl rfl) ?_;refine DOps.nil (by kernel_rfl) ?_;refine AGo.split 97 rfl (fun hb11 => ?_) (fun hb11 => ?_)
        ·
         refine act ?_
         have hsz := hb11
         refine asr ?_;refine am 98 ?_;refine aq 99 (q_nilCheck rfl rfl rfl) ?_;refine af 100 tok ?_;refine AOps.w rfl rfl (o_store tok rfl rfl rfl rfl rfl rfl rfl rfl rfl (by decide) rfl z40q) ?_;refine an ?_;refine AGo.ret ?_;refine ⟨[], trivial, rfl, ?_⟩
         rw [mone67z ho hsz]
         exact HSub.put (HSub.put (HSub.put (HSub.put (HSub.none _) rfl) rfl) rfl) rfl
        ·
         refine acf ?_
         have hsz := hb11
         have hsz2 : rget regs t.a < t.size := by simpa using hb11
         have hidx : 0 ≤ t.base + rget regs t.a ∧ t.base + rget regs t.a < b.words.toNat := by omega
         refine AGo.skip ?_;refine asr ?_;refine af 101 tok ?_;refine al 102 tok ?_;refine aqb ?_;refine an ?_;refine AGo.split 103 rfl (fun hb12 => ?_) (fun hb12 => ?_)
         ·
          refine act ?_
          have ho6 : t.op = 6 := by simpa using hb12
          have hd := ht.d (by simp [setsOp, ho6])
          refine AGo.draw mix ?_;refine dm 104 ?_;refine df 105 tok ?_;refine dl 106 tok ?_;refine dm 107 ?_;refine dq 108 (q_nilCheck rfl rfl rfl) ?_;refine df 109 tok ?_;refine dl 110 tok ?_;refine df 111 tok ?_;refine dl 112 tok ?_;refine dm 113 ?_;refine df 114 tok ?_;refine dl 115 tok ?_;refine dq 116 (q_index_ref tok rfl rfl rfl rfl rfl rfl rfl (by rw [regCells_len, hlen]) rfl ha.1 (by have := ha.2; omega)) ?_;refine dq 117 (q_load tok rfl rfl rfl (.ptr _ _ _ _ _ _ _ _ rfl (by rw [regCells_len, hlen]) (rcell (by have := ha; omega))) rfl) ?_;refine dq 118 (q_convTo tok rfl rfl rfl rfl rfl (r := rget regs t.a) (by exact wrap_i64 (by omega) (by omega))) ?_;refine dq 119 (q_bin (r := .int .i64 (t.base + rget regs t.a)) rfl rfl rfl z29q) ?_;refine dq 120 (q_index_ref tok rfl rfl rfl rfl rfl rfl rfl (by rw [regCells_len, hm.len]) rfl hidx.1 (by have := hidx.2; omega)) ?_;refine dq 121 (q_load tok rfl rfl rfl (.ptr _ _ _ _ _ _ _ _ rfl (by rw [regCells_len, hm.len]) (rcell (by have := hidx; have := hm.len; omega))) rfl) ?_
          refine dq 122 (q_index_ref tok rfl rfl rfl rfl rfl rfl rfl (by rw [regCells_len, hlen]) rfl hd.1 (by have := hd.2; omega)) ?_;refine DOps.w rfl rfl (o_store tok rfl rfl rfl rfl rfl rfl (by rw [regCells_len, hlen]) (rcell (by have := hd; omega)) rfl (by decide) rfl z40q) ?_;refine DOps.nil (by kernel_rfl) ?_;refine ⟨[], trivial, rfl, ?_⟩
          rw [mone6 ho6 hsz]
          exact HSub.put (HSub.put (HSub.put (HSub.put (HSub.none _) rfl) rfl) rfl) z20q
         ·
          refine acf ?_
          have ho7 : t.op = 7 := by have h := hb12; simp at h; omega
          have hb := ht.b (by simp [use2, ho7])
          refine AGo.draw mix ?_;refine dm 123 ?_;refine dq 124 (q_nilCheck rfl rfl rfl) ?_;refine df 125 tok ?_;refine dl 126 tok ?_;refine df 127 tok ?_;refine dl 128 tok ?_;refine dm 129 ?_;refine df 130 tok ?_;refine dl 131 tok ?_;refine dq 132 (q_index_ref tok rfl rfl rfl rfl rfl rfl rfl (by rw [regCells_len, hlen]) rfl ha.1 (by have := ha.2; omega)) ?_;refine dq 133 (q_load tok rfl rfl rfl (.ptr _ _ _ _ _ _ _ _ rfl (by rw [regCells_len, hlen]) (rcell (by have := ha; omega))) rfl) ?_;refine dq 134 (q_convTo tok rfl rfl rfl rfl rfl (r := rget regs t.a) (by exact wrap_i64 (by omega) (by omega))) ?_;refine dq 135 (q_bin (r := .int .i64 (t.base + rget regs t.a)) rfl rfl rfl z29q) ?_;refine dm 136 ?_;refine df 137 tok ?_;refine dl 138 tok ?_;refine dq 139 (q_index_ref tok rfl rfl rfl rfl rfl rfl rfl (by rw [regCells_len, hlen]) rfl hb.1 (by have := hb.2; omega)) ?_;refine dq 140 (q_load tok rfl rfl rfl (.ptr _ _ _ _ _ _ _ _ rfl (by rw [regCells_len, hlen]) (rcell (by have := hb; omega))) rfl) ?_
          refine dq 141 (q_index_ref tok rfl rfl rfl rfl rfl rfl rfl (by rw [regCells_len, hm.len]) rfl hidx.1 (by have := hidx.2; omega)) ?_;refine DOps.w rfl rfl (o_store tok rfl rfl rfl rfl rfl rfl (by rw [regCells_len, hm.len]) (rcell (by have := hidx; have := hm.len; omega)) rfl (by decide) rfl z40q) ?_;refine DOps.nil (by kernel_rfl) ?_;refine ⟨[], trivial, rfl, ?_⟩
          rw [mone7 ho7 hsz]
          exact HSub.put (HSub.put (HSub.put (HSub.put (HSub.none _) rfl) z20q) rfl) rfl
       ·
        refine acf ?_;refine asr ?_;refine aqb ?_;refine aa 142 ?_;refine an ?_;refine AGo.split 142 rfl (fun hb13 => ?_) (fun hb13 => ?_)
        ·
         refine act ?_
         have ho : t.op = 8 := by simpa using hb13
         have hd := ht.d (by simp [setsOp, ho])
         refine asr ?_;refine am 144 ?_;refine af 145 tok ?_;refine al 146 tok ?_;refine aq 147 (q_index_ref tok rfl rfl rfl rfl rfl rfl rfl (by rw [regCells_len, hlen]) rfl hd.1 (by have := hd.2; omega)) ?_;refine AOps.w rfl rfl (o_store tok rfl rfl rfl rfl rfl rfl (by rw [regCells_len, hlen]) (rcell (by have := hd; omega)) rfl (by decide) rfl z40q) ?_;refine an ?_;refine AGo.seq ?_;refine AGo.draw mix ?_;refine dm 148 ?_;refine dq 149 (q_nilCheck rfl rfl rfl) ?_;refine df 150 tok ?_;refine dl 151 tok ?_;refine dm 152 ?_;refine dq 153 (q_nilCheck rfl rfl rfl) ?_;refine df 154 tok ?_;refine dl 155 tok ?_;refine dq 156 (q_len tok rfl rfl rfl rfl rfl) ?_;refine dq 157 (q_bin rfl rfl rfl rfl) ?_;refine DOps.nil (by kernel_rfl) ?_;refine AGo.split 157 rfl (fun hb14 => ?_) (fun hb14 => ?_)
         ·
          refine act ?_
          have hrd : m.read < s.size := by have h := hb14; simp at h; omega
          refine AGo.seq ?_;refine AGo.draw mix ?_;refine dm 158 ?_;refine df 159 tok ?_;refine dl 160 tok ?_;refine dm 161 ?_;refine dq 162 (q_nilCheck rfl rfl rfl) ?_;refine df 163 tok ?_;refine dl 164 tok ?_;refine dm 165 ?_;refine dq 166 (q_nilCheck rfl rfl rfl) ?_;refine df 167 tok ?_;refine dl 168 tok ?_;refine dq 169 (q_index_str (c := inAt s m.read) tok rfl rfl rfl rfl rfl (Int.natCast_nonneg _) (inAt_get hrd)) ?_;refine dq 170 (q_convTo tok rfl rfl rfl rfl rfl (r := ((inAt s m.read).toNat : Int)) (by rw [IntKind.wrap_u32]; have := (byte_w (inAt s m.read)).2; omega)) ?_;refine dq 171 (q_index_ref tok rfl rfl rfl rfl rfl rfl rfl (by rw [List.length_set, regCells_len, hlen]) rfl hd.1 (by have := hd.2; omega)) ?_;refine DOps.w rfl rfl (o_store tok rfl rfl rfl rfl rfl rfl (by rw [List.length_set, regCells_len, hlen]) (get_set_self (rcell (by have := hd; omega))) rfl (by decide) rfl z40q) ?_
          refine DOps.nil (by kernel_rfl) ?_;refine AGo.region ?_;refine am 172 ?_;refine aq 173 (q_nilCheck rfl rfl rfl) ?_;refine af 174 tok ?_;refine al 175 tok ?_;refine aq 176 (q_inc rfl rfl hrd (by simp only [maxLen]; omega)) ?_;refine aq 177 (q_nilCheck rfl rfl rfl) ?_;refine af 178 tok ?_;refine AOps.w rfl rfl (o_store tok rfl rfl rfl rfl rfl rfl rfl rfl rfl (by decide) rfl z40q) ?_;refine an ?_;refine ⟨[], trivial, rfl, ?_⟩
          rw [mone8 ho hrd]
          exact HSub.put (HSub.put (HSub.put (HSub.put (HSub.none _) rfl) rfl) rfl) z20q
         ·
          refine acf ?_
          have hrd : ¬ m.read < s.size := by have h := hb14; simp at h; omega
          refine AGo.skip ?_;refine ⟨[], trivial, rfl, ?_⟩
          rw [mone8z ho hrd]
          exact HSub.put (HSub.put (HSub.put (HSub.put (HSub.none _) rfl) rfl) rfl) z20q
        ·
         refine acf ?_;refine asr ?_;refine aqb ?_;refine aa 179 ?_;refine an ?_;refine AGo.split 179 rfl (fun hb15 => ?_) (fun hb15 => ?_)
         ·
          refine act ?_
          have ho : t.op = 9 := by simpa using hb15
          have ha := ht.a (by simp [use1, use2, ho])
          have hwa := rget_w hr t.a
          have hwa1 := hwa.1
          have hwa2 := hwa.2
          refine AGo.seq ?_;refine asr ?_;refine am 181 ?_;refine aq 182 (q_nilCheck rfl rfl rfl) ?_;refine af 183 tok ?_;refine al 184 tok ?_;refine aq 185 (q_len tok rfl rfl rfl rfl rfl) ?_;refine aqb ?_;refine an ?_;refine AGo.split 186 rfl (fun hb16 => ?_) (fun hb16 => ?_)
          ·
           refine act ?_
           have hou : m.out.length ≥ 65536 := by have h := hb16; simp [byteCells] at h; omega
           refine asr ?_;refine am 187 ?_;refine aq 188 (q_nilCheck rfl rfl rfl) ?_;refine af 189 tok ?_;refine AOps.w rfl rfl (o_store tok rfl rfl rfl rfl rfl rfl rfl rfl rfl (by decide) rfl z40q) ?_;refine an ?_;refine AGo.ret ?_;refine ⟨[], trivial, rfl, ?_⟩
           rw [mone9z ho hou]
           exact HSub.put (HSub.put (HSub.put (HSub.put (HSub.none _) rfl) rfl) rfl) rfl
          ·
           refine acf ?_
           have hou : ¬ m.out.length ≥ 65536 := by have h := hb16; simp [byteCells] at h; omega
           refine AGo.skip ?_;refine AGo.draw mix ?_;refine dm 190 ?_;refine dm 191 ?_;refine dq 192 (q_nilCheck rfl rfl rfl) ?_;refine df 193 tok ?_;refine dl 194 tok ?_;refine dm 195 ?_;refine df 196 tok ?_;refine dl 197 tok ?_;refine dq 198 (q_index_ref tok rfl rfl rfl rfl rfl rfl rfl (by rw [regCells_len, hlen]) rfl ha.1 (by have := ha.2; omega)) ?_;refine dq 199 (q_load tok rfl rfl rfl (.ptr _ _ _ _ _ _ _ _ rfl (by rw [regCells_len, hlen]) (rcell (by have := ha; omega))) rfl) ?_;refine dq 200 (q_convTo tok rfl rfl rfl rfl rfl (wrap_byte hwa)) ?_;refine dx 201 (o_lit' tok rfl rfl rfl rfl rfl rfl (by decide) rfl rfl rfl rfl rfl rfl) ?_;refine dx 202 (o_append tok (n := m.out.length) (m := 1) rfl rfl rfl rfl rfl rfl rfl rfl rfl (by simp [byteCells]) rfl rfl (Nat.zero_lt_succ _) (.lst _ _) z41q (fun _ cs h => by simp [partVals] at h; subst h; rfl) rfl (by simp [byteCells, partVals]; have := hm.out; omega) (by simp [byteCells, partVals]; simp only [maxLen]; have := hm.out; omega)) ?_
           refine dq 203 (q_nilCheck rfl rfl rfl) ?_;refine df 204 tok ?_;refine DOps.w rfl rfl (o_store tok rfl rfl rfl rfl rfl rfl rfl rfl rfl (by decide) rfl z40q) ?_;refine DOps.nil (by kernel_rfl) ?_;refine ⟨[], trivial, rfl, ?_⟩
           rw [mone9 ho hou]
           exact HSub.put (HSub.put (HSub.put (HSub.put (HSub.none _) (by first | rfl | exact congrArg (fun n => some (AObj.row false 9 [[.int .i64 b.words, funcsAV b.funcs, .str s, .int .i64 fuel, .ref 1 b.words.toNat 0 b.words.toNat, .ref 2 n 0 n, .int .i64 (m.read : Int), .int .i64 (m.steps : Int), .int .i64 m.fin]])) (by simp))) rfl) (by first | rfl | exact congrArg (fun es => some (AObj.row true 1 es)) (by simp [byteCells, partVals]; rfl))) rfl
         ·
          refine acf ?_;refine asr ?_;refine aqb ?_;refine aa 205 ?_;refine an ?_;refine AGo.split 205 rfl (fun hb17 => ?_) (fun hb17 => ?_)
          ·
           refine act ?_
           have ho : t.op = 10 := by simpa using hb17
           have hcl := ht.call ho
           refine AGo.region ?_;refine am 207 ?_;refine af 208 tok ?_;refine al 209 tok ?_;refine ax 210 (o_call (hc := (mheap hNew b s fuel m)) (hw := (mheap hNone b s fuel (call t.base m))) [2, 1, 0] [(0, (.row false 9 [runCells b s fuel (call t.base m)])), (1, (.row true 1 (regCells ((call t.base m)).words))), (2, (.row true 1 (byteCells ((call t.base m)).out)))] rfl Try.func34 (by kernel_rfl) rfl rfl rfl ⟨⟨_, rfl, rfl⟩, ⟨_, rfl, rfl⟩, ⟨_, rfl, rfl⟩, trivial⟩ rfl (hres_cons rfl (hres_cons rfl (hres_cons rfl (hres_nil _)))) ⟨⟨_, rfl, rfl, rfl⟩, ⟨_, rfl, rfl, rfl⟩, ⟨_, rfl, rfl, rfl⟩, trivial⟩ rfl (hcall t.base hcl.1 hcl.2)) ?_;refine an ?_;refine ⟨[], trivial, rfl, ?_⟩
           rw [mone10 ho]
           exact HSub.put (HSub.put (HSub.put (HSub.put (HSub.none _) rfl) rfl) rfl) rfl
          ·
           refine acf ?_;refine AGo.skip ?_;exact absurd ht.op (by simp_all; omega)
set_option maxRecDepth 100000 in
theorem fun_step (b : Blocks) (s : ByteArray) (fuel : Int) (call : Int → Mach → Mach) (i : Int) (f : BFunc) (m : Mach) (hfu : fuel ≤ 9223372036854775807) (hs : s.size ≤ 9223372036854775807) (hbw : b.words ≤ 1048576) (hf : b.funcs[i.toNat]? = some f) (hi : 0 ≤ i) (hone : f.one i b.words = true)
    (hfw : ∀ x ∈ f.blocks, insW x.ins) (hfl : ∀ x ∈ f.blocks, x.ins.length ≤ maxLen)
    (hcall : ∀ (j : Int) (m : Mach), 0 ≤ j → j < i → m.fin = 0 → m.good b.words.toNat → ACall Try.prog 34 [.ptr 0 1 0 0, .int .i64 j] (mheap hNew b s fuel m) (fun r h' => r = .tup [] ∧ HSub (mheap hNone b s fuel (call j m)) h'))
    (hcg : ∀ i m, m.good b.words.toNat → (call i m).good b.words.toNat) (hcs : ∀ i m, m.steps ≤ (call i m).steps) (hm : m.good b.words.toNat) (h0 : m.fin = 0) : ACall Try.prog 34 [.ptr 0 1 0 0, .int .i64 i] (mheap hNew b s fuel m) (fun r h' => r = .tup [] ∧ HSub (mheap hNone b s fuel (mblk call s fuel f (fuel.toNat + 1) 0 (List.replicate f.regs.toNat 0) m)) h') := by
 have hsp := one_spec hone
 refine ACall.of_body (n := 76) tok Try.func34 rfl rfl ?_
 refine asr ?_
 refine am 9 ?_
 refine aq 10 (q_nilCheck rfl rfl rfl) ?_
 refine af 11 tok ?_
 refine af 12 tok ?_
 refine al 13 tok ?_
 refine am 14 ?_
 refine aq 15 (q_index_lst tok rfl rfl rfl rfl rfl rfl hi (idx_map2 hf) rfl) ?_
 refine al 16 tok ?_
 refine ax 4 (o_alloc tok 3 rfl rfl rfl rfl (Nat.zero_lt_succ _) rfl) ?_
 refine AOps.w rfl rfl (o_store tok rfl rfl rfl rfl rfl rfl rfl rfl rfl (by decide) rfl z40q) ?_
 refine an ?_
 refine asr ?_
 refine af 17 tok ?_
 refine al 18 tok ?_
 refine ax 19 (o_makeSlice tok (n := f.regs.toNat) (m := f.regs.toNat) 4 true rfl rfl rfl (by have := hsp.1; omega) (by have := hsp.1; omega) rfl rfl rfl rfl rfl (Nat.zero_lt_succ _) rfl (Nat.le_refl _) (by show 4 * f.regs.toNat ≤ _; have := hsp.2.1; omega) (by simp only [maxLen]; have := hsp.2.1; omega)) ?_
 refine aa 5 ?_
 refine an ?_
 refine asr ?_
 refine aa 6 ?_
 refine an ?_
 refine AGo.block ?_
 refine AGo.loopD (γ := FG) 5 (fun q => ⟨76, (eput (eput (eput (eput eNew 0 (.ptr 0 1 0 0)) 4 (.ptr 3 1 0 0)) 5 (.ref 4 f.regs.toNat 0 f.regs.toNat)) 6 (.int .i64 q.i)), (hput (hput (hput (hput (hput (hFrom 5) 0 (.row false 9 [runCells b s fuel q.m])) 1 (.row true 1 (regCells (q.m).words))) 2 (.row true 1 (byteCells (q.m).out))) 3 (.row false 2 [f.cells])) 4 (.row true 1 (regCells q.regs)))⟩) (fun q => FInv call s fuel f b.words.toNat f.regs.toNat (mblk call s fuel f (fuel.toNat + 1) 0 (List.replicate f.regs.toNat 0) m) q) (fun q => q.g) ⟨0, List.replicate f.regs.toNat 0, m, fuel.toNat + 1⟩ (Sub.mk' z34q z6q) (FInv.first hm h0 hsp.2.2.1) (fun _ => hput_free (hput_free (hput_free (hput_free (hput_free (fun b hb => hFrom_free hb) rfl) rfl) rfl) rfl) rfl) ?_
 intro q hF
 refine AGo.seq ?_
 refine asr ?_
 refine am 20 ?_
 refine aq 21 (q_nilCheck rfl rfl rfl) ?_
 refine af 22 tok ?_
 refine al 23 tok ?_
 refine aqb ?_
 refine an ?_
 refine AGo.split 24 rfl (fun hb1 => ?_) (fun hb1 => ?_)
 ·
  refine act ?_
  obtain ⟨k, hk⟩ := get_of_lt (l := f.blocks) (k := q.i.toNat) (by have := hF.i; omega)
  have hkm := List.mem_of_getElem? hk
  have hks := hsp.2.2.2 k hkm
  refine AGo.skip ?_
  refine AGo.block ?_
  refine asr ?_
  refine af 25 tok ?_
  refine al 26 tok ?_
  refine am 27 ?_
  refine aq 28 (q_index_lst tok rfl rfl rfl rfl rfl rfl hF.i.1 (idx_map2 hk) rfl) ?_
  refine al 29 tok ?_
  refine ax 7 (o_alloc tok 5 rfl rfl rfl rfl (Nat.zero_lt_succ _) rfl) ?_
  refine AOps.w rfl rfl (o_store tok rfl rfl rfl rfl rfl rfl rfl rfl rfl (by decide) rfl z40q) ?_
  refine an ?_
  refine AGo.seq ?_
  refine asr ?_
  refine aa 8 ?_
  refine an ?_
  refine AGo.block ?_
  refine AGo.loopD (γ := IG) 6 (fun r => ⟨76, (eput (eput (eput (eput (eput (eput eNew 0 (.ptr 0 1 0 0)) 4 (.ptr 3 1 0 0)) 5 (.ref 4 f.regs.toNat 0 f.regs.toNat)) 6 (.int .i64 q.i)) 7 (.ptr 5 1 0 0)) 8 (.int .i64 (r.j : Int))), (hput (hput (hput (hput (hput (hput (hFrom 6) 0 (.row false 9 [runCells b s fuel r.m])) 1 (.row true 1 (regCells (r.m).words))) 2 (.row true 1 (byteCells (r.m).out))) 3 (.row false 2 [f.cells])) 4 (.row true 1 (regCells r.regs))) 5 (.row false 5 [k.cells]))⟩) (fun r => IInv call s fuel k q b.words.toNat f.regs.toNat r) (fun r => k.ins.length - r.j) ⟨0, q.regs, q.m⟩ (Sub.mk' z34q z13q) hF.start (fun _ => hput_free (hput_free (hput_free (hput_free (hput_free (hput_free (fun b hb => hFrom_free hb) rfl) rfl) rfl) rfl) rfl) rfl) ?_
  intro r hI
  refine AGo.seq ?_
  refine asr ?_
  refine am 30 ?_
  refine af 31 tok ?_
  refine al 32 tok ?_
  refine aq 33 (q_len tok rfl rfl rfl rfl rfl) ?_
  refine aqb ?_
  refine an ?_
  refine AGo.split 34 rfl (fun hb2 => ?_) (fun hb2 => ?_)
  ·
   refine act ?_
   have hjl : r.j < k.ins.length := lt_of_idx hb2
   obtain ⟨u, hu⟩ := get_of_lt hjl
   have hum := List.mem_of_getElem? hu
   have hut := tacIn_of (hks.2 u hum)
   have huw := hfw k hkm u hum
   refine AGo.skip ?_
   refine AGo.seq ?_
   refine AGo.block ?_
   refine AGo.seq ?_
   refine asr ?_
   refine am 37 ?_
   refine ax 38 (o_call (hc := (mheap hNew b s fuel r.m)) (hw := (mheap hNone b s fuel (mstep fuel r.m).2)) [2, 1, 0] [(0, (.row false 9 [runCells b s fuel (mstep fuel r.m).2])), (1, (.row true 1 (regCells ((mstep fuel r.m).2).words))), (2, (.row true 1 (byteCells ((mstep fuel r.m).2).out)))] rfl Try.func54 (by kernel_rfl) rfl rfl rfl ⟨⟨_, rfl, rfl⟩, ⟨_, rfl, rfl⟩, ⟨_, rfl, rfl⟩, trivial⟩ rfl (hres_cons rfl (hres_cons rfl (hres_cons rfl (hres_nil _)))) ⟨⟨_, rfl, rfl, rfl⟩, ⟨_, rfl, rfl, rfl⟩, ⟨_, rfl, rfl, rfl⟩, trivial⟩ rfl (step_ok b s fuel r.m hfu)) ?_
   refine aq 39 (q_not rfl rfl) ?_
   refine an ?_
   refine AGo.split 39 rfl (fun hb3 => ?_) (fun hb3 => ?_)
   ·
    refine act ?_
    have hst : (mstep fuel r.m).1 = false := by simpa using hb3
    refine AGo.ret ?_;refine ⟨[], trivial, rfl, ?_⟩
    rw [show (mblk call s fuel f (fuel.toNat + 1) 0 (List.replicate f.regs.toNat 0) m) = _ from fin_A hF hk hI hu hst]
    exact HSub.put (HSub.put (HSub.put (HSub.none _) rfl) rfl) rfl
   ·
    refine acf ?_
    have hst : (mstep fuel r.m).1 = true := by simpa using hb3
    have hsf : (mstep fuel r.m).2.fin = 0 := by rw [(mstep_true hst).2]; exact hI.fin
    refine AGo.skip ?_;refine asr ?_;refine am 40 ?_;refine af 41 tok ?_;refine al 42 tok ?_;refine am 43 ?_;refine aq 44 (q_index_lst tok rfl rfl rfl rfl rfl rfl (Int.natCast_nonneg _) (idx_map (by assumption)) rfl) ?_;refine al 45 tok ?_;refine am 46 ?_;refine ax 47 (o_call (hc := (hput (mheap hNew b s fuel (mstep fuel r.m).2) 4 (.row true 1 (regCells r.regs)))) (hw := (hput (mheap hNone b s fuel (mone call s u r.regs (mstep fuel r.m).2).2) 4 (.row true 1 (regCells (mone call s u r.regs (mstep fuel r.m).2).1)))) [4, 2, 1, 0] [(0, (.row false 9 [runCells b s fuel (mone call s u r.regs (mstep fuel r.m).2).2])), (1, (.row true 1 (regCells ((mone call s u r.regs (mstep fuel r.m).2).2).words))), (2, (.row true 1 (byteCells ((mone call s u r.regs (mstep fuel r.m).2).2).out))), (4, (.row true 1 (regCells (mone call s u r.regs (mstep fuel r.m).2).1)))] rfl Try.func55 (by kernel_rfl) rfl rfl rfl ⟨⟨_, rfl, rfl⟩, ⟨_, rfl, rfl⟩, ⟨_, rfl, rfl⟩, ⟨_, rfl, rfl⟩, trivial⟩ rfl (hres_cons rfl (hres_cons rfl (hres_cons rfl (hres_cons rfl (hres_nil _))))) ⟨⟨_, rfl, rfl, rfl⟩, ⟨_, rfl, rfl, rfl⟩, ⟨_, rfl, rfl, rfl⟩, ⟨_, rfl, rfl, rfl⟩, trivial⟩ rfl (one_okR b s fuel call u r.regs (mstep fuel r.m).2 i.toNat f.regs.toNat hut hI.regs hI.len (mstep_good hI.good) hsf hbw hs huw (fun j h1 h2 => hcall j _ h1 (by omega) hsf (mstep_good hI.good)))) ?_
    refine an ?_;refine asr ?_;refine am 48 ?_;refine aq 49 (q_nilCheck rfl rfl rfl) ?_;refine af 50 tok ?_;refine al 51 tok ?_;refine aqb ?_;refine an ?_;refine AGo.split 52 rfl (fun hb4 => ?_) (fun hb4 => ?_)
    ·
     refine act ?_
     have hnz := hb4
     refine AGo.ret ?_;refine ⟨[], trivial, rfl, ?_⟩
     rw [show (mblk call s fuel f (fuel.toNat + 1) 0 (List.replicate f.regs.toNat 0) m) = _ from fin_B hF hk hI hu hst hnz]
     exact HSub.put (HSub.put (HSub.put (HSub.none _) rfl) rfl) rfl
    ·
     refine acf ?_
     have hnz := hb4
     refine AGo.skip ?_;refine AGo.region ?_;refine am 35 ?_;refine aq 36 (q_inc rfl rfl hjl (hfl k hkm)) ?_;refine aa 8 ?_;refine an ?_;exact ⟨⟨r.j + 1, (mone call s u r.regs (mstep fuel r.m).2).1, (mone call s u r.regs (mstep fuel r.m).2).2⟩, Drop.mk' z22q z17q, (hI.next hcg hcs hu huw hst hnz), (by show k.ins.length - (r.j + 1) < k.ins.length - r.j; omega)⟩
  ·
   refine acf ?_
   have hge := ge_of_idx hb2
   refine AGo.exit ?_
   refine AGo.seq ?_
   refine asr ?_
   refine am 53 ?_
   refine ax 54 (o_call (hc := (mheap hNew b s fuel r.m)) (hw := (mheap hNone b s fuel (mstep fuel r.m).2)) [2, 1, 0] [(0, (.row false 9 [runCells b s fuel (mstep fuel r.m).2])), (1, (.row true 1 (regCells ((mstep fuel r.m).2).words))), (2, (.row true 1 (byteCells ((mstep fuel r.m).2).out)))] rfl Try.func54 (by kernel_rfl) rfl rfl rfl ⟨⟨_, rfl, rfl⟩, ⟨_, rfl, rfl⟩, ⟨_, rfl, rfl⟩, trivial⟩ rfl (hres_cons rfl (hres_cons rfl (hres_cons rfl (hres_nil _)))) ⟨⟨_, rfl, rfl, rfl⟩, ⟨_, rfl, rfl, rfl⟩, ⟨_, rfl, rfl, rfl⟩, trivial⟩ rfl (step_ok b s fuel r.m hfu)) ?_
   refine aq 55 (q_not rfl rfl) ?_
   refine am 56 ?_
   refine AOps.split 56 rfl (fun hb5 => ?_) (fun hb5 => ?_)
   ·
    iterate 3 refine ak _ ?_
    refine apt ?_;refine an ?_;refine act ?_;refine AGo.ret ?_;refine ⟨[], trivial, rfl, ?_⟩
    rw [show (mblk call s fuel f (fuel.toNat + 1) 0 (List.replicate f.regs.toNat 0) m) = _ from fin_C hF hk hI hge (by first | exact .inl (by simpa using ‹(!(mstep fuel r.m).1) = true›) | exact .inr ‹_›)]
    exact HSub.put (HSub.put (HSub.put (HSub.none _) rfl) rfl) rfl
   ·
    have hst : (mstep fuel r.m).1 = true := by simpa using hb5
    refine af 57 tok ?_;refine al 58 tok ?_;refine aqb ?_;refine apf ?_;refine an ?_;refine AGo.split 60 rfl (fun hb6 => ?_) (fun hb6 => ?_)
    ·
     refine act ?_;refine AGo.ret ?_;refine ⟨[], trivial, rfl, ?_⟩
     rw [show (mblk call s fuel f (fuel.toNat + 1) 0 (List.replicate f.regs.toNat 0) m) = _ from fin_C hF hk hI hge (by first | exact .inl (by simpa using ‹(!(mstep fuel r.m).1) = true›) | exact .inr ‹_›)]
     exact HSub.put (HSub.put (HSub.put (HSub.none _) rfl) rfl) rfl
    ·
     refine acf ?_;refine AGo.skip ?_;refine asr ?_;refine af 61 tok ?_;refine al 62 tok ?_;refine aa 6 ?_;refine an ?_;refine asr ?_;refine af 63 tok ?_;refine al 64 tok ?_;refine aqb ?_;refine am 66 ?_;refine AOps.split 66 rfl (fun hb7 => ?_) (fun hb7 => ?_)
     ·
      have hv := ends_v hks.1 hb7
      refine am 67 ?_;refine af 68 tok ?_;refine al 69 tok ?_;refine aq 70 (q_index_ref tok rfl rfl rfl rfl rfl rfl rfl (by rw [regCells_len, hI.len]) rfl hv.1 (by have := hv.2; omega)) ?_;refine aq 71 (q_load tok rfl rfl rfl (.ptr _ _ _ _ _ _ _ _ rfl (by rw [regCells_len, hI.len]) (rcell (by have := hv; have := hI.len; omega))) rfl) ?_;refine aqb ?_;refine apt ?_;refine an ?_;refine AGo.split 73 rfl (fun hb8 => ?_) (fun hb8 => ?_)
      ·
       refine act ?_;refine AGo.region ?_;refine af 74 tok ?_;refine al 75 tok ?_;refine aa 6 ?_;refine an ?_
       have hft : (k.fin == 3) = false := by simp_all
       have hnx := hF.next hk hI hge hst hft (ends_next hks.1 hft r.regs)
       exact ⟨⟨k.next r.regs, r.regs, (mstep fuel r.m).2, q.g - 1⟩, Drop.mk' z16q z17q, hnx.1, hnx.2⟩
      ·
       refine acf ?_;refine AGo.skip ?_
       have hft : (k.fin == 3) = false := by simp_all
       have hnx := hF.next hk hI hge hst hft (ends_next hks.1 hft r.regs)
       exact ⟨⟨k.next r.regs, r.regs, (mstep fuel r.m).2, q.g - 1⟩, Drop.mk' z16q z17q, hnx.1, hnx.2⟩
     ·
      iterate 6 refine ak _ ?_
      refine apf ?_;refine an ?_;refine acf ?_;refine AGo.skip ?_
      have hft : (k.fin == 3) = false := by simp_all
      have hnx := hF.next hk hI hge hst hft (ends_next hks.1 hft r.regs)
      exact ⟨⟨k.next r.regs, r.regs, (mstep fuel r.m).2, q.g - 1⟩, Drop.mk' z16q z17q, hnx.1, hnx.2⟩
 ·
  refine acf ?_
  have hbad := hb1
  refine AGo.exit ?_
  exact absurd hF.fin (by simpa using hbad)
theorem fun_ok (b : Blocks) (s : ByteArray) (fuel : Int) (hfu : fuel ≤ 9223372036854775807) (hs : s.size ≤ 9223372036854775807) (hb : b.right = true) (hbw : b.insW) (hbl : ∀ f ∈ b.funcs, ∀ x ∈ f.blocks, x.ins.length ≤ maxLen) :
    ∀ (n : Nat) (i : Int) (m : Mach), 0 ≤ i → i < n → i < b.funcs.length → m.fin = 0 → m.good b.words.toNat → ACall Try.prog 34 [.ptr 0 1 0 0, .int .i64 i] (mheap hNew b s fuel m) (fun r h' => r = .tup [] ∧ HSub (mheap hNone b s fuel (mfun b s fuel n i m)) h')
  | 0, i, m, h1, h2, _, _, _ => absurd h2 (by omega)
  | n + 1, i, m, h1, h2, h3, h4, h5 => by
    obtain ⟨f, hf⟩ := get_of_lt (l := b.funcs) (k := i.toNat) (by omega)
    have hr := right_spec hb
    have hfm := List.mem_of_getElem? hf
    have hone : f.one i b.words = true := by
      have := hr.2.2.2 i.toNat f hf
      rwa [Int.toNat_of_nonneg h1] at this
    have key := fun_step b s fuel (mfun b s fuel n) i f m hfu hs hr.2.1 hf h1 hone (hbw f hfm) (hbl f hfm)
      (fun j m' j1 j2 j3 j4 => fun_ok b s fuel hfu hs hb hbw hbl n j m' j1 (by omega) (by omega) j3 j4) (fun j m' hg => mfun_good hbw n j m' hg) (fun j m' => mfun_steps n j m') h5 h4
    have e : mfun b s fuel (n + 1) i m = mblk (mfun b s fuel n) s fuel f (fuel.toNat + 1) 0 (List.replicate f.regs.toNat 0) m := by
      rw [mfun, hf]
    rw [e]; exact key
set_option maxRecDepth 100000 in
theorem run_ok (b : Blocks) (s : ByteArray) (fuel : Int) (hfu : fuel ≤ 9223372036854775807) (hs : s.size ≤ 9223372036854775807) (hb : b.right = true) (hbw : b.insW) (hbl : ∀ f ∈ b.funcs, ∀ x ∈ f.blocks, x.ins.length ≤ maxLen) : APure Try.prog 18 [.agg b.cells, .str s, .int .i64 fuel] (fun r => r = .agg (resCells (mrun b s fuel))) := by
 have hr := right_spec hb
 have hne : 0 < b.funcs.length := List.length_pos_iff.2 hr.2.2.1
 refine APure.of_body (n := 51) tok Try.func18 rfl rfl ?_
 refine AGo.seq ?_
 refine AGo.slot 0 rfl (fun H ι v => rel_prog) (fun hfit => ?_)
 refine AGo.region ?_
 refine ax 3 (o_box (sz := 2) 3 rfl rfl rfl rfl (Nat.zero_lt_succ _) rfl) ?_
 refine ax 6 (o_alloc tok 4 rfl rfl rfl rfl (Nat.zero_lt_succ _) rfl) ?_
 refine an ?_
 refine AGo.seq ?_
 refine asr ?_
 refine af 8 tok ?_
 refine al 9 tok ?_
 refine aq 10 (q_len tok rfl rfl rfl rfl rfl) ?_
 refine aqb ?_
 refine an ?_
 refine AGo.split 11 rfl (fun hb1 => ?_) (fun hb1 => ?_)
 ·
  refine act ?_
  refine asr ?_
  refine aq 12 (q_build tok rfl rfl rfl rfl rfl (by decide) rfl rfl rfl) ?_
  refine AOps.w rfl rfl (o_store tok rfl rfl rfl rfl rfl rfl rfl rfl rfl (by decide) rfl z40q) ?_
  refine an ?_
  refine AGo.ret ?_
  exact absurd hne (by have h := hb1; simp [funcsAV] at h; simp [h])
 ·
  refine acf ?_
  refine AGo.skip ?_
  refine AGo.seq ?_
  refine AGo.join (γ := Unit) (fun _u => ⟨51, (eput (eput (eput (eput (eput eNew 0 (.agg b.cells)) 1 (.str s)) 3 (.ptr 3 1 0 0)) 6 (.ptr 4 1 0 0)) 2 (.int .i64 (fuel0 fuel))), (hput (hput (hput (hput (hput (hFrom 5) 3 (.row false 2 [b.cells])) 4 (.row false 3 [[.int .i64 0, .str .empty, .int .i64 0]])) 0 .free) 1 .free) 2 .free)⟩) (fun _u => True) ?_ ?_
  ·
   refine asr ?_
   refine am 13 ?_
   refine aqb ?_
   refine an ?_
   refine AGo.split 14 rfl (fun hb2 => ?_) (fun hb2 => ?_)
   ·
    refine act ?_;refine AGo.region ?_;refine aa 2 ?_;refine an ?_;exact ⟨(), Sub.mk' (by repeat (first | exact ESub.new _ | refine ESub.put ?_ (by first | rfl | exact congrArg (fun (n : Int) => some (AV.int .i64 n)) (by simp [fuel0, *])))) z13q, trivial⟩
   ·
    refine acf ?_;refine AGo.skip ?_;exact ⟨(), Sub.mk' (by repeat (first | exact ESub.new _ | refine ESub.put ?_ (by first | rfl | exact congrArg (fun (n : Int) => some (AV.int .i64 n)) (by simp [fuel0, *])))) z13q, trivial⟩
  intro _u _
  refine AGo.seq ?_
  have hfu0 : fuel0 fuel ≤ 9223372036854775807 := by unfold fuel0; cases decide (fuel < 0) <;> simp <;> omega
  have m0_good : (m0 b).good b.words.toNat := ⟨by simp [m0], allR_rep _, by simp [m0]⟩
  refine AGo.draw mix ?_
  refine dl 15 tok ?_
  refine dm 16 ?_
  refine dm 17 ?_
  refine df 18 tok ?_
  refine dl 19 tok ?_
  refine dx 20 (o_makeSlice tok (n := b.words.toNat) (m := b.words.toNat) 1 true rfl rfl rfl (by have := hr.1; omega) (by have := hr.1; omega) rfl rfl rfl rfl rfl (Nat.zero_lt_succ _) rfl (Nat.le_refl _) (by show 4 * b.words.toNat ≤ _; have := hr.2.1; omega) (by simp only [maxLen]; have := hr.2.1; omega)) ?_
  refine dq 21 (q_build tok rfl rfl rfl rfl rfl (by decide) rfl rfl rfl) ?_
  refine dx 22 (o_box (sz := 9) 0 rfl rfl rfl rfl (Nat.zero_lt_succ _) rfl) ?_
  refine da 7 ?_
  refine DOps.nil (by kernel_rfl) ?_
  refine AGo.seq ?_
  refine AGo.ghost (.dryCell 0 0 5 2 1 true rfl rfl rfl rfl rfl (by decide)) ?_
  refine AGo.sub (s' := ⟨51, (eput (eput (eput (eput (eput eNew 0 (.agg b.cells)) 1 (.str s)) 3 (.ptr 3 1 0 0)) 6 (.ptr 4 1 0 0)) 7 (.ptr 0 1 0 0)), (hput (hput (hput (hput (hput hNone 0 (.row false 9 [runCells b s (fuel0 fuel) (m0 b)])) 1 (.row true 1 (regCells ((m0 b)).words))) 2 (.row true 1 (byteCells ((m0 b)).out))) 3 (.row false 2 [b.cells])) 4 (.row false 3 [[.int .i64 0, .str .empty, .int .i64 0]]))⟩) (Sub.mk' z34q z6q) ?_
  refine AGo.region ?_
  have hmx := hfit.1
  refine am 23 ?_
  refine af 24 tok ?_
  refine al 25 tok ?_
  refine aq 26 (q_len tok rfl rfl rfl rfl rfl) ?_
  refine aq 27 (q_bin (r := .int .i64 ((b.funcs.length : Int) - 1)) rfl rfl rfl (by simp only [evalBin, evalInt, isShift, cond_false, if_true]; rw [List.length_map, wrap_i64 (by omega) (by simp only [maxLen] at hmx; omega)])) ?_
  refine ax 28 (o_call (hc := (mheap hNew b s (fuel0 fuel) (m0 b))) (hw := (mheap hNone b s (fuel0 fuel) (mfun b s (fuel0 fuel) b.funcs.length ((b.funcs.length : Int) - 1) (m0 b)))) [2, 1, 0] [(0, (.row false 9 [runCells b s (fuel0 fuel) (mfun b s (fuel0 fuel) b.funcs.length ((b.funcs.length : Int) - 1) (m0 b))])), (1, (.row true 1 (regCells ((mfun b s (fuel0 fuel) b.funcs.length ((b.funcs.length : Int) - 1) (m0 b))).words))), (2, (.row true 1 (byteCells ((mfun b s (fuel0 fuel) b.funcs.length ((b.funcs.length : Int) - 1) (m0 b))).out)))] rfl Try.func34 (by kernel_rfl) rfl rfl rfl ⟨⟨_, rfl, rfl⟩, ⟨_, rfl, rfl⟩, ⟨_, rfl, rfl⟩, trivial⟩ rfl (hres_cons rfl (hres_cons rfl (hres_cons rfl (hres_nil _)))) ⟨⟨_, rfl, rfl, rfl⟩, ⟨_, rfl, rfl, rfl⟩, ⟨_, rfl, rfl, rfl⟩, trivial⟩ rfl (fun_ok b s (fuel0 fuel) hfu0 hs hb hbw hbl b.funcs.length ((b.funcs.length : Int) - 1) (m0 b) (by omega) (by omega) (by omega) rfl m0_good)) ?_
  refine an ?_
  refine AGo.seq ?_
  refine AGo.join (γ := Mach) (fun m => ⟨51, (eput (eput (eput (eput (eput eNew 0 (.agg b.cells)) 1 (.str s)) 3 (.ptr 3 1 0 0)) 6 (.ptr 4 1 0 0)) 7 (.ptr 0 1 0 0)), (hput (hput (hput (hput (hput hNone 0 (.row false 9 [runCells b s (fuel0 fuel) m])) 1 (.row true 1 (regCells (m).words))) 2 (.row true 1 (byteCells (m).out))) 3 (.row false 2 [b.cells])) 4 (.row false 3 [[.int .i64 0, .str .empty, .int .i64 0]]))⟩) (fun m => m = mrun b s fuel) ?_ ?_
  ·
   refine asr ?_
   refine am 29 ?_
   refine aq 30 (q_nilCheck rfl rfl rfl) ?_
   refine af 31 tok ?_
   refine al 32 tok ?_
   refine aqb ?_
   refine an ?_
   refine AGo.split 33 rfl (fun hb3 => ?_) (fun hb3 => ?_)
   ·
    refine act ?_;refine AGo.region ?_;refine am 34 ?_;refine aq 35 (q_nilCheck rfl rfl rfl) ?_;refine af 36 tok ?_;refine AOps.w rfl rfl (o_store tok rfl rfl rfl rfl rfl rfl rfl rfl rfl (by decide) rfl z40q) ?_;refine an ?_;exact ⟨{ (mfun b s (fuel0 fuel) b.funcs.length ((b.funcs.length : Int) - 1) (m0 b)) with fin := 1 }, Sub.mk' z34q z13q, (by simp [mrun, *])⟩
   ·
    refine acf ?_;refine AGo.skip ?_;exact ⟨(mfun b s (fuel0 fuel) b.funcs.length ((b.funcs.length : Int) - 1) (m0 b)), Sub.mk' z34q z13q, (by simp [mrun, *])⟩
  intro m hm
  refine AGo.seq ?_
  refine AGo.ghost (.freezeCell 0 0 5 2 rfl rfl rfl rfl (by simp [byteCells]) (by decide)) ?_
  refine AGo.draw mix ?_
  refine dm 37 ?_
  refine dq 38 (q_nilCheck rfl rfl rfl) ?_
  refine df 39 tok ?_
  refine dl 40 tok ?_
  refine dm 41 ?_
  refine dq 42 (q_nilCheck rfl rfl rfl) ?_
  refine df 43 tok ?_
  refine dl 44 tok ?_
  refine dq 45 (q_bytesStr (l := m.out) tok rfl (by show some (AV.lst false _) = _; rw [List.drop_zero, List.take_of_length_le (by simp [byteCells])]) rfl rfl rfl rfl rfl rfl) ?_
  refine dm 46 ?_
  refine dq 47 (q_nilCheck rfl rfl rfl) ?_
  refine df 48 tok ?_
  refine dl 49 tok ?_
  refine dq 50 (q_build tok rfl rfl rfl rfl rfl (by decide) rfl rfl rfl) ?_
  refine DOps.w rfl rfl (o_store tok rfl rfl rfl rfl rfl rfl rfl rfl rfl (by decide) rfl z40q) ?_
  refine DOps.nil (by kernel_rfl) ?_
  refine AGo.ret ?_
  refine ⟨[_], ⟨⟨_, _, _, _, rfl, rfl, .ptr _ _ _ _ _ _ _ _ rfl rfl rfl, rfl⟩, trivial⟩, ?_, rfl⟩
  subst hm
  rfl
set_option maxRecDepth 100000 in
theorem num25_ok (n : Int) : APure Try.prog 21 [.int .u32 n] (fun r => r = .agg (eNum n).cells) := by
 refine APure.of_body (n := 5) tok Try.func21 rfl rfl ?_
 refine asr ?_
 refine ax 2 (o_alloc tok 0 rfl rfl rfl rfl (Nat.zero_lt_succ _) rfl) ?_
 refine an ?_
 refine asr ?_
 refine am 3 ?_
 refine aq 4 (QLoc.weakN (y := .agg (eNum n).cells) (q_build tok rfl rfl rfl rfl rfl (by decide) rfl rfl rfl) (fun _ _ _ h => agg_fix h rfl)) ?_
 refine AOps.w rfl rfl (o_store tok rfl rfl rfl rfl rfl rfl rfl rfl rfl (by decide) rfl z40q) ?_
 refine an ?_
 refine AGo.ret ?_
 refine ⟨[_], ⟨⟨_, _, _, _, rfl, rfl, .ptr _ _ _ _ _ _ _ _ rfl rfl rfl, rfl⟩, trivial⟩, ?_, rfl⟩
 rfl
set_option maxRecDepth 100000 in
theorem put25_ok (e : CE) : APure Try.prog 22 [.agg e.cells] (fun r => r = .agg (sPut e).cells) := by
 obtain ⟨k_, o_, n_, s_, z_, l_⟩ := e
 refine APure.of_body (n := 6) tok Try.func22 rfl rfl ?_
 refine asr ?_
 refine ax 1 (o_box (sz := 6) 0 rfl rfl rfl rfl (Nat.zero_lt_succ _) rfl) ?_
 refine ax 2 (o_alloc tok 1 rfl rfl rfl rfl (Nat.zero_lt_succ _) rfl) ?_
 refine an ?_
 refine asr ?_
 refine al 3 tok ?_
 refine ax 4 (o_lit' tok rfl rfl rfl rfl rfl rfl (by decide) rfl rfl rfl rfl rfl rfl) ?_
 refine aq 5 (QLoc.weakN (y := .agg (sPut (.mk k_ o_ n_ s_ z_ l_)).cells) (q_build tok rfl rfl rfl rfl rfl (by decide) rfl rfl rfl) (fun _ _ _ h => agg_fix h rfl)) ?_
 refine AOps.w rfl rfl (o_store tok rfl rfl rfl rfl rfl rfl rfl rfl rfl (by decide) rfl z40q) ?_
 refine an ?_
 refine AGo.ret ?_
 refine ⟨[_], ⟨⟨_, _, _, _, rfl, rfl, .ptr _ _ _ _ _ _ _ _ rfl rfl rfl, rfl⟩, trivial⟩, ?_, rfl⟩
 rfl
set_option maxRecDepth 100000 in
theorem alive25_ok  : APure Try.prog 12 [] (fun r => r = .bool true) := by
 refine APure.of_body (n := 21) tok Try.func12 rfl rfl ?_
 refine asr ?_
 refine aa 0 ?_
 refine an ?_
 refine asr ?_
 refine ax 3 (o_pure rfl Try.func21 (by kernel_rfl) rfl rfl rfl (num25_ok 65)) ?_
 refine ax 4 (o_pure rfl Try.func22 (by kernel_rfl) rfl rfl rfl (put25_ok (eNum 65))) ?_
 refine ax 5 (o_lit' tok rfl rfl rfl rfl rfl rfl (by decide) rfl rfl rfl rfl rfl rfl) ?_
 refine aq 6 (q_build tok rfl rfl rfl rfl rfl (by decide) rfl rfl rfl) ?_
 refine ax 7 (o_lit' tok rfl rfl rfl rfl rfl rfl (by decide) rfl rfl rfl rfl rfl rfl) ?_
 refine aq 8 (q_build tok rfl rfl rfl rfl rfl (by decide) rfl rfl rfl) ?_
 refine ax 1 (o_alloc tok 0 rfl rfl rfl rfl (Nat.zero_lt_succ _) rfl) ?_
 refine AOps.w rfl rfl (o_store tok rfl rfl rfl rfl rfl rfl rfl rfl rfl (by decide) rfl z40q) ?_
 refine an ?_
 refine asr ?_
 refine al 9 tok ?_
 refine ax 10 (o_pure rfl Try.func14 (by kernel_rfl) rfl rfl rfl (buildOf_ok aliveC alive_bld.ok alive_bld.r alive_bld.okL alive_bld.partsL)) ?_
 refine ax 2 (o_alloc tok 1 rfl rfl rfl rfl (Nat.zero_lt_succ _) rfl) ?_
 refine AOps.w rfl rfl (o_store tok rfl rfl rfl rfl rfl rfl rfl rfl rfl (by decide) rfl z40q) ?_
 refine an ?_
 refine AGo.seq ?_
 refine AGo.draw mix ?_
 refine dl 11 tok ?_
 refine dx 12 (o_pure rfl Try.func15 (by kernel_rfl) rfl rfl rfl ((right_ok aliveC.build).mono (fun r h => by rw [h, alive_bld.right]))) ?_
 refine dm 13 ?_
 refine dl 14 tok ?_
 refine dl 15 tok ?_
 refine dx 16 (o_pure rfl Try.func19 (by kernel_rfl) rfl rfl rfl (fuel25_ok aliveC 0 alive_bld.ok (by have := alive_bld.parts; omega) alive_bld.r.w0 (by have := alive_bld.r.w1; omega) (by first | decide | omega) (by first | decide | omega))) ?_
 refine dx 17 (o_pure rfl Try.func18 (by kernel_rfl) rfl rfl rfl (run_ok aliveC.build ⟨#[]⟩ _ (fuel_le (n := 0) (by decide) alive_bld.kle) (by first | decide | omega) alive_bld.right alive_bld.w alive_bld.ins2)) ?_
 refine dq 18 (q_build tok rfl rfl rfl rfl rfl (by decide) rfl rfl rfl) ?_
 refine dx 19 (o_pure rfl Try.func17 (by kernel_rfl) rfl rfl rfl ((ends10_ok _ ⟨[], [65], 0, 0, 1⟩).mono (fun r h => h.trans (congrArg AV.bool (ends_true (alive_ends _).1 (alive_ends _).2))))) ?_
 refine dq 20 (q_pick_true true rfl rfl rfl rfl) ?_
 refine da 0 ?_
 refine DOps.nil (by kernel_rfl) ?_
 refine AGo.ret ?_
 refine ⟨[_], ⟨rfl, trivial⟩, ?_, rfl⟩
 rfl
set_option maxRecDepth 100000 in
theorem walksE_step (l : List CE) (hlen : l.length ≤ maxLen) (hp : CE.partsL l ≤ 1000000) (hrec : ∀ x ∈ l, APure Try.prog 37 [(.lst false (x.kids.map CE.cells))] (fun r => r = (.tup [.int .i64 ((CE.loopsL x.kids : Nat) : Int), .int .i64 ((CE.getsL x.kids : Nat) : Int)]))) : APure Try.prog 37 [(.lst false (l.map CE.cells))] (fun r => r = (.tup [.int .i64 ((CE.loopsL l : Nat) : Int), .int .i64 ((CE.getsL l : Nat) : Int)])) := by
 refine APure.of_body (n := 45) tok Try.func37 rfl rfl ?_
 refine asr ?_
 refine aa 2 ?_
 refine aa 3 ?_
 refine an ?_
 refine asr ?_
 refine aa 4 ?_
 refine aa 5 ?_
 refine an ?_
 refine AGo.seq ?_
 refine asr ?_
 refine aa 6 ?_
 refine an ?_
 refine AGo.block ?_
 refine AGo.loopD (γ := Nat) 0 (fun k => ⟨45, (eput (eput (eput (eput eNew 0 (.lst false (l.map CE.cells))) 4 (.int .i64 ((CE.loopsL (l.take k) : Nat) : Int))) 5 (.int .i64 ((CE.getsL (l.take k) : Nat) : Int))) 6 (.int .i64 (k : Int))), (hFrom 0)⟩) (fun k => k ≤ l.length) (fun k => l.length - k) 0 (Sub.mk' (by repeat (first | exact ESub.new _ | refine ESub.put ?_ (by first | rfl | exact congrArg (fun n => some (AV.int .i64 n)) (by simp [CE.loopsL, CE.getsL])))) z13q) (Nat.zero_le _) (fun _ => fun b hb => hFrom_free hb) ?_
 intro k hk
 refine AGo.seq ?_
 refine asr ?_
 refine am 9 ?_
 refine am 10 ?_
 refine aq 11 (q_len tok rfl rfl rfl rfl rfl) ?_
 refine aqb ?_
 refine an ?_
 refine AGo.split 12 rfl (fun hb1 => ?_) (fun hb1 => ?_)
 ·
  refine act ?_
  have hkl : k < l.length := lt_of_idx hb1
  obtain ⟨x, hx⟩ := get_of_lt hkl
  have hxm := List.mem_of_getElem? hx
  have htl := eloopsL_take hx
  have htg := egetsL_take hx
  have hle := ewalk_take hx
  rw [htl, htg, eloops_eq, egets_eq] at hle
  refine AGo.skip ?_
  refine AGo.seq ?_
  refine AGo.block ?_
  refine AGo.seq ?_
  refine asr ?_
  refine am 15 ?_
  refine am 16 ?_
  refine aq 17 (q_index_lst tok rfl rfl rfl rfl rfl rfl (Int.natCast_nonneg _) (idxE hx) rfl) ?_
  refine af 18 tok ?_
  refine al 19 tok ?_
  refine an ?_
  refine AGo.join (γ := Unit) (fun _u => ⟨45, (eput (eput (eput (eput eNew 0 (.lst false (l.map CE.cells))) 4 (.int .i64 ((CE.loopsL (l.take k) + (if x.kind = 4 then 1 else 0) : Nat) : Int))) 5 (.int .i64 ((CE.getsL (l.take k) + (if x.kind = 5 then 1 else 0) : Nat) : Int))) 6 (.int .i64 (k : Int))), hNone⟩) (fun _u => True) ?_ ?_
  ·
   refine AGo.block ?_
   refine asr ?_
   refine aqb ?_
   refine aa 20 ?_
   refine an ?_
   refine AGo.split 20 rfl (fun hb2 => ?_) (fun hb2 => ?_)
   ·
    refine act ?_
    have h4 : x.kind = 4 := by simpa using hb2
    have hx4 : (if x.kind = 4 then 1 else 0) = 1 := if_pos h4
    have hx5 : (if x.kind = 5 then 1 else 0) = 0 := if_neg (by omega)
    refine AGo.region ?_;refine am 22 ?_;refine aq 23 (q_bin (r := .int .i64 (((CE.loopsL (l.take k) + 1 : Nat) : Int))) rfl rfl rfl z28q) ?_;refine aa 4 ?_;refine an ?_;exact ⟨(), Sub.mk' z18q z13q, trivial⟩
   ·
    refine acf ?_
    have h4 : x.kind ≠ 4 := by simpa using hb2
    have hx4 : (if x.kind = 4 then 1 else 0) = 0 := if_neg h4
    refine asr ?_;refine aqb ?_;refine aa 24 ?_;refine an ?_;refine AGo.split 24 rfl (fun hb3 => ?_) (fun hb3 => ?_)
    ·
     refine act ?_
     have h5 : x.kind = 5 := by simpa using hb3
     have hx5 : (if x.kind = 5 then 1 else 0) = 1 := if_pos h5
     refine AGo.region ?_;refine am 26 ?_;refine aq 27 (q_bin (r := .int .i64 (((CE.getsL (l.take k) + 1 : Nat) : Int))) rfl rfl rfl z28q) ?_;refine aa 5 ?_;refine an ?_;exact ⟨(), Sub.mk' z18q z13q, trivial⟩
    ·
     refine acf ?_
     have h5 : x.kind ≠ 5 := by simpa using hb3
     have hx5 : (if x.kind = 5 then 1 else 0) = 0 := if_neg h5
     refine AGo.skip ?_;exact ⟨(), Sub.mk' z18q z13q, trivial⟩
  intro _u _
  refine asr ?_
  refine am 29 ?_
  refine am 30 ?_
  refine aq 31 (q_index_lst tok rfl rfl rfl rfl rfl rfl (Int.natCast_nonneg _) (idxE hx) rfl) ?_
  refine af 32 tok ?_
  refine al 33 tok ?_
  refine ax 34 (o_pure rfl Try.func37 (by kernel_rfl) rfl rfl rfl (hrec x hxm)) ?_
  refine am 28 ?_
  refine aq 35 (q_extract rfl rfl rfl) ?_
  refine aq 36 (q_extract rfl rfl rfl) ?_
  refine aa 7 ?_
  refine aa 8 ?_
  refine an ?_
  refine AGo.region ?_
  refine am 37 ?_
  refine am 38 ?_
  refine aq 39 (q_bin (r := .int .i64 (((CE.loopsL (l.take k) + (if x.kind = 4 then 1 else 0) + CE.loopsL x.kids : Nat) : Int))) rfl rfl rfl z28q) ?_
  refine am 40 ?_
  refine am 41 ?_
  refine aq 42 (q_bin (r := .int .i64 (((CE.getsL (l.take k) + (if x.kind = 5 then 1 else 0) + CE.getsL x.kids : Nat) : Int))) rfl rfl rfl z28q) ?_
  refine aa 4 ?_
  refine aa 5 ?_
  refine an ?_
  refine AGo.region ?_
  refine am 13 ?_
  refine aq 14 (q_inc rfl rfl hkl hlen) ?_
  refine aa 6 ?_
  refine an ?_
  exact ⟨k+1, Drop.mk' (by repeat (first | exact EDrop.new _ _ | refine EDrop.put ?_ (by first | rfl | exact congrArg (fun n => some (AV.int .i64 n)) (by rw [htl, eloops_eq]; omega) | exact congrArg (fun n => some (AV.int .i64 n)) (by rw [htg, egets_eq]; omega)) z35q)) z17q, hkl, by omega⟩
 ·
  refine acf ?_
  have hke : k = l.length := Nat.le_antisymm hk (ge_of_idx hb1)
  refine AGo.exit ?_
  refine asr ?_
  refine am 43 ?_
  refine am 44 ?_
  refine aa 2 ?_
  refine aa 3 ?_
  refine an ?_
  refine AGo.ret ?_
  refine ⟨[_, _], ⟨rfl, rfl, trivial⟩, ?_, rfl⟩
  subst hke
  rw [List.take_length]
  rfl
theorem walksE_ok : ∀ (n : Nat) (l : List CE), CE.partsL l ≤ n → (∀ e ∈ l, e.Ok) → l.length * 64 ≤ reachBytes → CE.partsL l ≤ 1000000 → APure Try.prog 37 [(.lst false (l.map CE.cells))] (fun r => r = (.tup [.int .i64 ((CE.loopsL l : Nat) : Int), .int .i64 ((CE.getsL l : Nat) : Int)]))
  | 0, l, hn, hk, hl, h1 => walksE_step l (len64 hl) h1 fun x hx => absurd (parts_mem hx) (by have := parts_kids x; omega)
  | n + 1, l, hn, hk, hl, h1 => walksE_step l (len64 hl) h1 fun x hx => walksE_ok n x.kids (by have := parts_mem hx; have := parts_kids x; omega) (hk x hx).kidsOk.1 (hk x hx).kidsOk.2 (by have := parts_mem hx; have := parts_kids x; omega)
set_option maxRecDepth 100000 in
theorem walksS_step (l : List CS) (hk : ∀ e ∈ l, e.Ok) (hlen : l.length ≤ maxLen) (hp : CS.partsL l ≤ 1000000) (hrec : ∀ x ∈ l, APure Try.prog 24 [(.lst false (x.thn.map CS.cells))] (fun r => r = (.tup [.int .i64 ((CS.loopsL x.thn : Nat) : Int), .int .i64 ((CS.getsL x.thn : Nat) : Int)])) ∧ APure Try.prog 24 [(.lst false (x.els.map CS.cells))] (fun r => r = (.tup [.int .i64 ((CS.loopsL x.els : Nat) : Int), .int .i64 ((CS.getsL x.els : Nat) : Int)]))) : APure Try.prog 24 [(.lst false (l.map CS.cells))] (fun r => r = (.tup [.int .i64 ((CS.loopsL l : Nat) : Int), .int .i64 ((CS.getsL l : Nat) : Int)])) := by
 refine APure.of_body (n := 78) tok Try.func24 rfl rfl ?_
 refine asr ?_
 refine aa 2 ?_
 refine aa 3 ?_
 refine an ?_
 refine asr ?_
 refine aa 4 ?_
 refine aa 5 ?_
 refine an ?_
 refine AGo.seq ?_
 refine asr ?_
 refine aa 6 ?_
 refine an ?_
 refine AGo.block ?_
 refine AGo.loopD (γ := Nat) 0 (fun k => ⟨78, (eput (eput (eput (eput eNew 0 (.lst false (l.map CS.cells))) 4 (.int .i64 ((CS.loopsL (l.take k) : Nat) : Int))) 5 (.int .i64 ((CS.getsL (l.take k) : Nat) : Int))) 6 (.int .i64 (k : Int))), (hFrom 0)⟩) (fun k => k ≤ l.length) (fun k => l.length - k) 0 (Sub.mk' (by repeat (first | exact ESub.new _ | refine ESub.put ?_ (by first | rfl | exact congrArg (fun n => some (AV.int .i64 n)) (by simp [CS.loopsL, CS.getsL])))) z13q) (Nat.zero_le _) (fun _ => fun b hb => hFrom_free hb) ?_
 intro k hkk
 refine AGo.seq ?_
 refine asr ?_
 refine am 13 ?_
 refine am 14 ?_
 refine aq 15 (q_len tok rfl rfl rfl rfl rfl) ?_
 refine aqb ?_
 refine an ?_
 refine AGo.split 16 rfl (fun hb1 => ?_) (fun hb1 => ?_)
 ·
  refine act ?_
  have hkl : k < l.length := lt_of_idx hb1
  obtain ⟨x, hx⟩ := get_of_lt hkl
  have hxm := List.mem_of_getElem? hx
  have hxk := hk x hxm
  have htl := sloopsL_take hx
  have htg := sgetsL_take hx
  have hle := swalk_take hx
  have hpm := sparts_mem hxm
  have hpx := sparts_es x
  rw [htl, htg, sloops_eq, sgets_eq] at hle
  refine AGo.skip ?_
  refine AGo.seq ?_
  refine AGo.block ?_
  refine AGo.seq ?_
  refine asr ?_
  refine am 19 ?_
  refine am 20 ?_
  refine aq 21 (q_index_lst tok rfl rfl rfl rfl rfl rfl (Int.natCast_nonneg _) (idxS hx) rfl) ?_
  refine af 22 tok ?_
  refine al 23 tok ?_
  refine aqb ?_
  refine am 25 ?_
  refine AOps.split 25 rfl (fun hb2 => ?_) (fun hb2 => ?_)
  ·
   iterate 6 refine ak _ ?_
   refine apt ?_
   refine an ?_
   refine AGo.join (γ := Unit) (fun _u => ⟨78, (eput (eput (eput (eput eNew 0 (.lst false (l.map CS.cells))) 4 (.int .i64 ((CS.loopsL (l.take k) + (if x.kind = 5 ∨ x.kind = 6 then 1 else 0) : Nat) : Int))) 5 (.int .i64 ((CS.getsL (l.take k) : Nat) : Int))) 6 (.int .i64 (k : Int))), hNone⟩) (fun _u => True) ?_ ?_
   ·
    refine act ?_
    have hx4 : (if x.kind = 5 ∨ x.kind = 6 then 1 else 0) = 1 := if_pos (by simp_all)
    refine AGo.region ?_;refine am 33 ?_;refine aq 34 (q_bin (r := .int .i64 (((CS.loopsL (l.take k) + 1 : Nat) : Int))) rfl rfl rfl z28q) ?_;refine aa 4 ?_;refine an ?_;exact ⟨(), Sub.mk' z18q z13q, trivial⟩
   intro _u _
   refine asr ?_
   refine am 36 ?_
   refine am 37 ?_
   refine aq 38 (q_index_lst tok rfl rfl rfl rfl rfl rfl (Int.natCast_nonneg _) (idxS hx) rfl) ?_
   refine af 39 tok ?_
   refine al 40 tok ?_
   refine ax 41 (o_pure rfl Try.func37 (by kernel_rfl) rfl rfl rfl (walksE_ok _ x.es (Nat.le_refl _) hxk.esOk.1 hxk.esOk.2 (by omega))) ?_
   refine am 35 ?_
   refine aq 42 (q_extract rfl rfl rfl) ?_
   refine aq 43 (q_extract rfl rfl rfl) ?_
   refine aa 7 ?_
   refine aa 8 ?_
   refine an ?_
   refine asr ?_
   refine am 45 ?_
   refine am 46 ?_
   refine aq 47 (q_index_lst tok rfl rfl rfl rfl rfl rfl (Int.natCast_nonneg _) (idxS hx) rfl) ?_
   refine af 48 tok ?_
   refine al 49 tok ?_
   refine ax 50 (o_pure rfl Try.func24 (by kernel_rfl) rfl rfl rfl ((hrec x hxm).1)) ?_
   refine am 44 ?_
   refine aq 51 (q_extract rfl rfl rfl) ?_
   refine aq 52 (q_extract rfl rfl rfl) ?_
   refine aa 9 ?_
   refine aa 10 ?_
   refine an ?_
   refine asr ?_
   refine am 54 ?_
   refine am 55 ?_
   refine aq 56 (q_index_lst tok rfl rfl rfl rfl rfl rfl (Int.natCast_nonneg _) (idxS hx) rfl) ?_
   refine af 57 tok ?_
   refine al 58 tok ?_
   refine ax 59 (o_pure rfl Try.func24 (by kernel_rfl) rfl rfl rfl ((hrec x hxm).2)) ?_
   refine am 53 ?_
   refine aq 60 (q_extract rfl rfl rfl) ?_
   refine aq 61 (q_extract rfl rfl rfl) ?_
   refine aa 11 ?_
   refine aa 12 ?_
   refine an ?_
   refine AGo.region ?_
   refine am 62 ?_
   refine am 63 ?_
   refine aq 64 (q_bin (r := .int .i64 (((CS.loopsL (l.take k) + (if x.kind = 5 ∨ x.kind = 6 then 1 else 0) + CE.loopsL x.es : Nat) : Int))) rfl rfl rfl z28q) ?_
   refine am 65 ?_
   refine aq 66 (q_bin (r := .int .i64 (((CS.loopsL (l.take k) + (if x.kind = 5 ∨ x.kind = 6 then 1 else 0) + CE.loopsL x.es + CS.loopsL x.thn : Nat) : Int))) rfl rfl rfl z28q) ?_
   refine am 67 ?_
   refine aq 68 (q_bin (r := .int .i64 (((CS.loopsL (l.take k) + (if x.kind = 5 ∨ x.kind = 6 then 1 else 0) + CE.loopsL x.es + CS.loopsL x.thn + CS.loopsL x.els : Nat) : Int))) rfl rfl rfl z28q) ?_
   refine am 69 ?_
   refine am 70 ?_
   refine aq 71 (q_bin (r := .int .i64 (((CS.getsL (l.take k) + CE.getsL x.es : Nat) : Int))) rfl rfl rfl z28q) ?_
   refine am 72 ?_
   refine aq 73 (q_bin (r := .int .i64 (((CS.getsL (l.take k) + CE.getsL x.es + CS.getsL x.thn : Nat) : Int))) rfl rfl rfl z28q) ?_
   refine am 74 ?_
   refine aq 75 (q_bin (r := .int .i64 (((CS.getsL (l.take k) + CE.getsL x.es + CS.getsL x.thn + CS.getsL x.els : Nat) : Int))) rfl rfl rfl z28q) ?_
   refine aa 4 ?_
   refine aa 5 ?_
   refine an ?_
   refine AGo.region ?_
   refine am 17 ?_
   refine aq 18 (q_inc rfl rfl hkl hlen) ?_
   refine aa 6 ?_
   refine an ?_
   exact ⟨k+1, Drop.mk' z11q z17q, hkl, by omega⟩
  ·
   refine am 26 ?_
   refine am 27 ?_
   refine aq 28 (q_index_lst tok rfl rfl rfl rfl rfl rfl (Int.natCast_nonneg _) (idxS hx) rfl) ?_
   refine af 29 tok ?_
   refine al 30 tok ?_
   refine aqb ?_
   refine apf ?_
   refine an ?_
   refine AGo.join (γ := Unit) (fun _u => ⟨78, (eput (eput (eput (eput eNew 0 (.lst false (l.map CS.cells))) 4 (.int .i64 ((CS.loopsL (l.take k) + (if x.kind = 5 ∨ x.kind = 6 then 1 else 0) : Nat) : Int))) 5 (.int .i64 ((CS.getsL (l.take k) : Nat) : Int))) 6 (.int .i64 (k : Int))), hNone⟩) (fun _u => True) ?_ ?_
   ·
    refine AGo.split 32 rfl (fun hb3 => ?_) (fun hb3 => ?_)
    ·
     refine act ?_
     have hx4 : (if x.kind = 5 ∨ x.kind = 6 then 1 else 0) = 1 := if_pos (by simp_all)
     refine AGo.region ?_;refine am 33 ?_;refine aq 34 (q_bin (r := .int .i64 (((CS.loopsL (l.take k) + 1 : Nat) : Int))) rfl rfl rfl z28q) ?_;refine aa 4 ?_;refine an ?_;exact ⟨(), Sub.mk' z18q z13q, trivial⟩
    ·
     refine acf ?_
     have hx4 : (if x.kind = 5 ∨ x.kind = 6 then 1 else 0) = 0 := if_neg (by simp_all)
     refine AGo.skip ?_;exact ⟨(), Sub.mk' z18q z13q, trivial⟩
   intro _u _
   refine asr ?_
   refine am 36 ?_
   refine am 37 ?_
   refine aq 38 (q_index_lst tok rfl rfl rfl rfl rfl rfl (Int.natCast_nonneg _) (idxS hx) rfl) ?_
   refine af 39 tok ?_
   refine al 40 tok ?_
   refine ax 41 (o_pure rfl Try.func37 (by kernel_rfl) rfl rfl rfl (walksE_ok _ x.es (Nat.le_refl _) hxk.esOk.1 hxk.esOk.2 (by omega))) ?_
   refine am 35 ?_
   refine aq 42 (q_extract rfl rfl rfl) ?_
   refine aq 43 (q_extract rfl rfl rfl) ?_
   refine aa 7 ?_
   refine aa 8 ?_
   refine an ?_
   refine asr ?_
   refine am 45 ?_
   refine am 46 ?_
   refine aq 47 (q_index_lst tok rfl rfl rfl rfl rfl rfl (Int.natCast_nonneg _) (idxS hx) rfl) ?_
   refine af 48 tok ?_
   refine al 49 tok ?_
   refine ax 50 (o_pure rfl Try.func24 (by kernel_rfl) rfl rfl rfl ((hrec x hxm).1)) ?_
   refine am 44 ?_
   refine aq 51 (q_extract rfl rfl rfl) ?_
   refine aq 52 (q_extract rfl rfl rfl) ?_
   refine aa 9 ?_
   refine aa 10 ?_
   refine an ?_
   refine asr ?_
   refine am 54 ?_
   refine am 55 ?_
   refine aq 56 (q_index_lst tok rfl rfl rfl rfl rfl rfl (Int.natCast_nonneg _) (idxS hx) rfl) ?_
   refine af 57 tok ?_
   refine al 58 tok ?_
   refine ax 59 (o_pure rfl Try.func24 (by kernel_rfl) rfl rfl rfl ((hrec x hxm).2)) ?_
   refine am 53 ?_
   refine aq 60 (q_extract rfl rfl rfl) ?_
   refine aq 61 (q_extract rfl rfl rfl) ?_
   refine aa 11 ?_
   refine aa 12 ?_
   refine an ?_
   refine AGo.region ?_
   refine am 62 ?_
   refine am 63 ?_
   refine aq 64 (q_bin (r := .int .i64 (((CS.loopsL (l.take k) + (if x.kind = 5 ∨ x.kind = 6 then 1 else 0) + CE.loopsL x.es : Nat) : Int))) rfl rfl rfl z28q) ?_
   refine am 65 ?_
   refine aq 66 (q_bin (r := .int .i64 (((CS.loopsL (l.take k) + (if x.kind = 5 ∨ x.kind = 6 then 1 else 0) + CE.loopsL x.es + CS.loopsL x.thn : Nat) : Int))) rfl rfl rfl z28q) ?_
   refine am 67 ?_
   refine aq 68 (q_bin (r := .int .i64 (((CS.loopsL (l.take k) + (if x.kind = 5 ∨ x.kind = 6 then 1 else 0) + CE.loopsL x.es + CS.loopsL x.thn + CS.loopsL x.els : Nat) : Int))) rfl rfl rfl z28q) ?_
   refine am 69 ?_
   refine am 70 ?_
   refine aq 71 (q_bin (r := .int .i64 (((CS.getsL (l.take k) + CE.getsL x.es : Nat) : Int))) rfl rfl rfl z28q) ?_
   refine am 72 ?_
   refine aq 73 (q_bin (r := .int .i64 (((CS.getsL (l.take k) + CE.getsL x.es + CS.getsL x.thn : Nat) : Int))) rfl rfl rfl z28q) ?_
   refine am 74 ?_
   refine aq 75 (q_bin (r := .int .i64 (((CS.getsL (l.take k) + CE.getsL x.es + CS.getsL x.thn + CS.getsL x.els : Nat) : Int))) rfl rfl rfl z28q) ?_
   refine aa 4 ?_
   refine aa 5 ?_
   refine an ?_
   refine AGo.region ?_
   refine am 17 ?_
   refine aq 18 (q_inc rfl rfl hkl hlen) ?_
   refine aa 6 ?_
   refine an ?_
   exact ⟨k+1, Drop.mk' z11q z17q, hkl, by omega⟩
 ·
  refine acf ?_
  have hke : k = l.length := Nat.le_antisymm hkk (ge_of_idx hb1)
  refine AGo.exit ?_
  refine asr ?_
  refine am 76 ?_
  refine am 77 ?_
  refine aa 2 ?_
  refine aa 3 ?_
  refine an ?_
  refine AGo.ret ?_
  refine ⟨[_, _], ⟨rfl, rfl, trivial⟩, ?_, rfl⟩
  subst hke
  rw [List.take_length]
  rfl
theorem walksS_ok : ∀ (n : Nat) (l : List CS), CS.partsL l ≤ n → (∀ e ∈ l, e.Ok) → l.length * 96 ≤ reachBytes → CS.partsL l ≤ 1000000 → APure Try.prog 24 [(.lst false (l.map CS.cells))] (fun r => r = (.tup [.int .i64 ((CS.loopsL l : Nat) : Int), .int .i64 ((CS.getsL l : Nat) : Int)]))
  | 0, l, hn, hk, hl, h1 => walksS_step l hk (len96 hl) h1 fun x hx => absurd (sparts_mem hx) (by have := sparts_es x; omega)
  | n + 1, l, hn, hk, hl, h1 => walksS_step l hk (len96 hl) h1 fun x hx => ⟨walksS_ok n x.thn z39q (hk x hx).thnOk.1 (hk x hx).thnOk.2 z39q, walksS_ok n x.els z39q (hk x hx).elsOk.1 (hk x hx).elsOk.2 z39q⟩
set_option maxHeartbeats 2000000 in
set_option maxRecDepth 100000 in
theorem buildEnds_ok (C : Core) (s : ByteArray) (hC : C.Ok) : APure Try.prog 8 [.agg C.cells, .str s] (fun r => r = .bool true) := by
 refine APure.of_body (n := 56) tok Try.func8 rfl rfl ?_
 refine asr ?_
 refine ax 2 (o_box (sz := 2) 0 rfl rfl rfl rfl (Nat.zero_lt_succ _) rfl) ?_
 refine aa 4 ?_
 refine an ?_
 refine AGo.seq ?_
 refine asr ?_
 refine ax 9 (o_pure rfl Try.func12 (by kernel_rfl) rfl rfl rfl (alive25_ok)) ?_
 refine aq 10 (q_not rfl rfl) ?_
 refine an ?_
 refine acf ?_
 refine AGo.skip ?_
 refine AGo.seq ?_
 refine asr ?_
 refine al 11 tok ?_
 refine ax 12 (o_pure rfl Try.func13 (by kernel_rfl) rfl rfl rfl (few25_ok C hC)) ?_
 refine aq 13 (q_not rfl rfl) ?_
 refine am 14 ?_
 refine AOps.split 14 rfl (fun hb1 => ?_) (fun hb1 => ?_)
 ·
  iterate 3 refine ak _ ?_
  refine apt ?_
  refine an ?_
  refine act ?_
  refine asr ?_
  refine aa 4 ?_
  refine an ?_
  refine AGo.ret ?_
  refine ⟨[_], ⟨rfl, trivial⟩, ?_, rfl⟩
  rfl
 ·
  refine am 15 ?_
  refine aq 16 (q_len tok rfl rfl rfl rfl rfl) ?_
  refine aqb ?_
  refine apf ?_
  refine an ?_
  refine AGo.split 18 rfl (fun hb2 => ?_) (fun hb2 => ?_)
  ·
   refine act ?_
   refine asr ?_
   refine aa 4 ?_
   refine an ?_
   refine AGo.ret ?_
   refine ⟨[_], ⟨rfl, trivial⟩, ?_, rfl⟩
   rfl
  ·
   refine acf ?_
   have hL := little_lit hC (by simpa using hb1)
   have hB := hL.bld
   have hs60_s : s.size ≤ 60 := by have h := hb2; simp at h; omega
   obtain ⟨g, hg⟩ := last_of hB.r
   have hgm := List.mem_of_getElem? hg
   have hgk := hC.funcs g hgm
   have hgp := parts_body hgm
   have hwl := swalks_le _ g.body (Nat.le_refl _)
   have hlp := hL.parts
   refine AGo.skip ?_
   refine AGo.seq ?_
   refine asr ?_
   refine af 20 tok ?_
   refine al 21 tok ?_
   refine af 22 tok ?_
   refine al 23 tok ?_
   refine aq 24 (q_len tok rfl rfl rfl rfl rfl) ?_
   refine aq 25 (q_bin (r := .int .i64 ((C.funcs.length - 1 : Nat) : Int)) rfl rfl rfl (by have := hB.r.n0; have := hB.r.n1; simp only [evalBin, evalInt, isShift, cond_false, if_true]; rw [List.length_map, wrap_i64 (by omega) (by omega)]; congr 2; omega)) ?_
   refine aq 26 (q_index_lst tok rfl rfl rfl rfl rfl rfl (Int.natCast_nonneg _) (idx_map (by assumption)) rfl) ?_
   refine af 27 tok ?_
   refine al 28 tok ?_
   refine ax 29 (o_pure rfl Try.func24 (by kernel_rfl) rfl rfl rfl (walksS_ok _ g.body (Nat.le_refl _) hgk.body hgk.len (by omega))) ?_
   refine am 19 ?_
   refine aq 30 (q_extract rfl rfl rfl) ?_
   refine aq 31 (q_extract rfl rfl rfl) ?_
   refine aa 5 ?_
   refine aa 6 ?_
   refine an ?_
   refine asr ?_
   refine am 32 ?_
   refine aqb ?_
   refine an ?_
   refine AGo.split 33 rfl (fun hb3 => ?_) (fun hb3 => ?_)
   ·
    refine act ?_;refine asr ?_;refine aa 4 ?_;refine an ?_;refine AGo.ret ?_;refine ⟨[_], ⟨rfl, trivial⟩, ?_, rfl⟩
    rfl
   ·
    refine acf ?_
    have h0 : CS.loopsL g.body = 0 := by have h := hb3; simp at h; omega
    have hend := ends_none hB hg h0 s
    refine AGo.skip ?_;refine AGo.seq ?_;refine AGo.draw mix ?_;refine dl 34 tok ?_;refine dx 35 (o_pure rfl Try.func14 (by kernel_rfl) rfl rfl rfl (buildOf_ok C hB.ok hB.r hB.okL hB.partsL)) ?_;refine dm 36 ?_;refine dl 37 tok ?_;refine dx 38 (o_pure rfl Try.func19 (by kernel_rfl) rfl rfl rfl (fuel25_ok C 0 hB.ok (by have := hB.parts; omega) hB.r.w0 (by have := hB.r.w1; omega) (by first | decide | omega) (by first | decide | omega))) ?_;refine dx 39 (o_pure rfl Try.func18 (by kernel_rfl) rfl rfl rfl (run_ok C.build s _ (fuel_le (n := 0) (by decide) hB.kle) (by first | decide | omega) hB.right hB.w hB.ins2)) ?_;refine dx 7 (o_alloc tok 1 rfl rfl rfl rfl (Nat.zero_lt_succ _) rfl) ?_;refine DOps.w rfl rfl (o_store tok rfl rfl rfl rfl rfl rfl rfl rfl rfl (by decide) rfl z40q) ?_;refine DOps.nil (by kernel_rfl) ?_;refine asr ?_;refine al 40 tok ?_;refine am 41 ?_;refine ax 42 (o_pure rfl Try.func16 (by kernel_rfl) rfl rfl rfl (run19_ok C s 0 (by first | decide | omega) (by omega) hL.r hL.ok)) ?_
    refine ax 8 (o_alloc tok 2 rfl rfl rfl rfl (Nat.zero_lt_succ _) rfl) ?_;refine AOps.w rfl rfl (o_store tok rfl rfl rfl rfl rfl rfl rfl rfl rfl (by decide) rfl z40q) ?_;refine an ?_;refine asr ?_;refine af 43 tok ?_;refine al 44 tok ?_;refine aq 45 (q_bin (r := .bool true) rfl rfl rfl (neqNum (by rw [hend.2.1]; exact hend.1))) ?_;refine am 46 ?_;refine af 47 tok ?_;refine al 48 tok ?_;refine aq 49 (q_bin (r := .bool true) rfl rfl rfl (neqNum hend.1)) ?_;refine apt ?_;refine am 51 ?_;refine al 52 tok ?_;refine al 53 tok ?_;refine ax 54 (o_pure rfl Try.func17 (by kernel_rfl) rfl rfl rfl ((ends10_ok _ _).mono (fun r h => h.trans (congrArg AV.bool (ends_true hend.2.1 hend.2.2))))) ?_;refine apt ?_;refine aa 4 ?_;refine an ?_;refine AGo.ret ?_;refine ⟨[_], ⟨rfl, trivial⟩, ?_, rfl⟩
    rfl
end Go.Proofs.Ytmfihmkopmgelaa.Sv

namespace Go.Proofs.Ytmfihmkopmgelaa
open Go.ChangeShapes Go.WideShapes Go.ChangeAt Go.RowKit Sv
set_option linter.unusedVariables false

set_option maxRecDepth 100000 in
theorem buildEnds_lifted (os : Os) (started : os.Started) (H : Type) (enc : TypeId × Value → H) :
    ReturnsInHanded {} Try.checked os 8 .any (Rows.buildEndsSpec.pre6 enc Try.prog Try.f8 Rows.buildEndsRow.domain false) (Rows.buildEndsSpec.post enc Try.prog Try.f8 false true false false) := by
  refine returnsInHanded_of_change_sized (C := Try.checked) own' started (by kernel_rfl) Try.func8
    (ChangeSpec.witness6 (enc := enc) (C := Try.checked) false ⟨#[], #[.agg #[.int .i64 0, .slice none 0 0], .string ⟨#[]⟩], []⟩ 8 (by kernel_rfl) (by kernel_rfl) (by kernel_rfl) (by kernel_rfl)) ?_
  intro W base args ds gs before hval0 hW hcnd hwt0 hh
  have hval : ∀ (j : Nat) t v, Try.f8.params[j]? = some t → args[j]? = some v → Value.okWide Try.prog W .any base t v := hval0
  have hW' := hW
  obtain ⟨p, q, hA0, hV, rfl, hfz, hnd⟩ := hW
  have hA : DataW.TrodAll enc Try.prog W 0 (fun _ => true) true Try.f8.params.toList args.toList ds p := hA0
  have hwt : (DataW.weightsEach Try.prog (Try.f8.params.toList ++ Rows.buildEndsSpec.plain.varTypes Try.prog) (ds ++ gs)).all (· ≤ reachBytes) = true := hwt0
  rw [Try.params8] at hA hval hwt
  obtain ⟨v0, vs0, d0, ds0, p0, q0, hargs, rfl, rfl, h0, r0⟩ := trodAll_cons hA
  obtain ⟨v1, vs1, d1, ds1, p1, q1, rfl, rfl, rfl, h1, r1⟩ := trodAll_cons r0
  obtain ⟨rfl, rfl, rfl⟩ := trodAll_nil r1
  obtain rfl : args = #[v0, v1] := by cases args; simp_all
  obtain ⟨rfl, rfl⟩ := trodVars_none hV
  obtain ⟨x0, e0, g0⟩ := arg_one h0 (weightsEach_get hwt (i := 0) rfl rfl) decCore
  obtain ⟨x1, e1, g1⟩ := arg_one h1 (weightsEach_get hwt (i := 1) rfl rfl) decStr
  exact law_calls laidOut' rfl (by kernel_rfl) rfl bool' rfl rfl rfl hW' (.cons (e0.val (okWide_agg tok rfl rfl (hval 0 24 v0 rfl rfl))) (.cons (e1.val1 (okWide_cellS tok rfl rfl (hval 1 9 v1 rfl rfl))) .nil)) (buildEnds_ok x0 x1 g0) (fun g l h => by cases h)

theorem buildEnds_holds : Rows.BuildEndsSaid :=
  OpenClaim.holds_of_wide 8 Try.f8 rfl rfl rfl rfl rfl rfl rfl ⟨rfl, rfl, rfl, rfl, rfl⟩ rfl rfl rfl rfl rfl (by kernel_rfl) Try.func8 (by kernel_rfl)
    (of_decide_eq_true (by kernel_rfl)) (by unfold Func.isWrapper; first | (rw [if_pos (by decide +kernel)]; kernel_rfl) | (rw [if_neg (by decide +kernel)]; exact ⟨rfl, rfl⟩))
    (fun os started H enc _ => buildEnds_lifted os started H enc)

end Go.Proofs.Ytmfihmkopmgelaa
