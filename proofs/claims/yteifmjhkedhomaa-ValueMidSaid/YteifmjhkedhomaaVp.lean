/- Mid of both: the walks. -/
import Derived.Test.YteifmjhkedhomaaVo
namespace Go.Proofs.Yteifmjhkedhomaa
open Go.RowKit
set_option linter.unusedVariables false
attribute [local go_sem] ByteArray.mk_append_mk bs_get bs_cut bs_end conv1 conv2

def cutL (l : List UInt8) (i m : Int) : List UInt8 := (l.drop i.toNat).take m.toNat
/-- What Mid returns. -/
def midV (k n : Int) (s : List UInt8) (i m : Int) : Value × Int :=
  if validV k s = false then badV 1 else if k = 1 then (valV 3 0 (cutL (little n.toNat 8) i m) 0, 0) else if k = 2 ∨ k = 3 then (valV k 0 (cutL s i m) 0, 0) else badV 10
theorem mid_ret {K : Int} {l l' : List UInt8} (h : l = l') : Ending.returned (.tuple #[valV K 0 l 0, .int .i64 0]) = .returned (.tuple #[(valV K 0 l' 0, (0 : Int)).1, .int .i64 (valV K 0 l' 0, (0 : Int)).2]) := by rw [h]
theorem mid_l (l : List UInt8) (i m : Int) (hi : 0 ≤ i) (hm : 0 ≤ m) : List.take ((min i (l.length : Int) + min m ((l.length : Int) - min i (l.length : Int))).toNat - (min i (l.length : Int)).toNat) (List.drop (min i (l.length : Int)).toNat l) = cutL l i m := by
  unfold cutL
  by_cases h1 : i ≤ l.length
  · rw [Int.min_eq_left h1]
    by_cases h2 : m ≤ (l.length : Int) - i
    · rw [Int.min_eq_left h2, show (i + m).toNat - i.toNat = m.toNat by omega]
    · rw [Int.min_eq_right (by omega), List.take_of_length_le (by rw [List.length_drop]; omega), List.take_of_length_le (by rw [List.length_drop]; omega)]
  · rw [Int.min_eq_right (by omega), List.drop_of_length_le (by omega), List.drop_of_length_le (by omega)]
    simp
theorem mid_b (l : List UInt8) (i m : Int) (h1 : i < l.length) (h2 : (l.length : Int) - i ≤ m) : List.drop i.toNat l = cutL l i m := by
  unfold cutL
  rw [List.take_of_length_le (by rw [List.length_drop]; omega)]
theorem mid_c (l : List UInt8) (i m : Int) (h1 : (l.length : Int) ≤ i) : ([] : List UInt8) = cutL l i m := by
  unfold cutL
  rw [List.drop_of_length_le (by omega)]; simp
theorem ret_lmid (tmps : Array Value) (w : World) (b : Nat) (c0 c1 c2 c3 : Value) (h2 : tmps.getD 6 undef = .pointer (some ⟨b, 0, none⟩)) (hb : w.heap[b]? = some (.cells #[c0, c1, c2, c3] 24 (0, 0))) :
    (results Try.f13 tmps).run Try.prog w = .ok (.tuple #[.agg #[c0, c1, c2, c3], tmps.getD 7 undef]) w := by
  obtain ⟨e0, e1, e2, e3⟩ := cells4 hb
  have h2' : tmps[6]?.getD undef = .pointer (some ⟨b, 0, none⟩) := by rw [← h2]; simp
  simp [results]
  go_simp
theorem ret_rmid (tmps : Array Value) (w : World) (b : Nat) (c0 c1 c2 c3 : Value) (h2 : tmps.getD 6 undef = .pointer (some ⟨b, 0, none⟩)) (hb : w.heap[b]? = some (.cells #[c0, c1, c2, c3] 24 (0, 0))) :
    (results Try.f14 tmps).run Try.prog w = .ok (.tuple #[.agg #[c0, c1, c2, c3], tmps.getD 7 undef]) w := by
  obtain ⟨e0, e1, e2, e3⟩ := cells4 hb
  have h2' : tmps[6]?.getD undef = .pointer (some ⟨b, 0, none⟩) := by rw [← h2]; simp
  simp [results]
  go_simp
theorem CAt.drewN {w wr : World} {k n : Int} {s : List UInt8} {o : Int} (h : CAt w wr k n s o) (j : Nat) : CAt w (wr.drewN j) k n s o := ⟨⟨h.1.1, below_drewN h.1.2 j⟩, h.2⟩
set_option maxRecDepth 100000 in
set_option maxHeartbeats 2000000 in
theorem lmid_bad (k n o i m : Int) (s : List UInt8) (w : World) (hs : s.length ≤ 9223372036854774000) (hi : 0 ≤ i) (hm : 0 ≤ m) (hi2 : i ≤ 18446744073709551615) (hm2 : m ≤ 18446744073709551615) (hv : validV k s = false) : Calls Try.prog 13 #[valV k n s o, .int .u64 i, .int .u64 m] w (CvPost w (badV 1)) := by
  have HV := Lib.hid hv
  clear hv
  have HA := Lib.hid (CAt.start w k n s o)
  (obtain ⟨b0, b1, b2, b3⟩ := HA.out.1.cells)
  go_enter Try.func13, Try.ntmps13
  go_wp2_with fail
  ((with_reducible refine (valid_is k n o s false HV _ (by omega)).mono ?_))
  rintro e wx ⟨rfl, hb⟩
  (have HA2 := HA; clear HA; have HA := Lib.hid (HA2.out.below hb); clear HA2 hb b0 b1 b2 b3; obtain ⟨b0, b1, b2, b3⟩ := HA.out.1.cells)
  (have hn := HA.out.2; obtain ⟨c0, c1, c2, c3⟩ := cells4 hn; have f0 := free3 hn 0; have f1 := free3 hn 1; have f2 := free3 hn 2; have f3 := free3 hn 3; clear hn)
  go_wp2_with fail
  exact bodyPost_ret (ret_lmid _ _ _ _ _ _ _ rfl (put4 HA.out.2 _ _ _ _)) rfl ⟨by rfl, bel4 HA.out.1.2 (by omega) _ _ _ _⟩
set_option maxRecDepth 100000 in
set_option maxHeartbeats 2000000 in
theorem lmid_type (k n o i m : Int) (s : List UInt8) (w : World) (hs : s.length ≤ 9223372036854774000) (hi : 0 ≤ i) (hm : 0 ≤ m) (hi2 : i ≤ 18446744073709551615) (hm2 : m ≤ 18446744073709551615) (hv : validV k s = true) (h1 : (k == 1) = false) (h2 : (k == 2) = false) (h3 : (k == 3) = false) : Calls Try.prog 13 #[valV k n s o, .int .u64 i, .int .u64 m] w (CvPost w (badV 10)) := by
  have HV := Lib.hid hv
  clear hv
  have HA := Lib.hid (CAt.start w k n s o)
  (obtain ⟨b0, b1, b2, b3⟩ := HA.out.1.cells)
  go_enter Try.func13, Try.ntmps13
  go_wp2_with fail
  ((with_reducible refine (valid_is k n o s true HV _ (by omega)).mono ?_))
  rintro e wx ⟨rfl, hb⟩
  (have HA2 := HA; clear HA; have HA := Lib.hid (HA2.out.below hb); clear HA2 hb b0 b1 b2 b3; obtain ⟨b0, b1, b2, b3⟩ := HA.out.1.cells)
  go_upto_region 3 with fail
  go_quiet (fail)
  (have HA2 := HA; clear HA; have HA := Lib.hid (HA2.out.drewN nq); clear HA2 b0 b1 b2 b3; obtain ⟨b0, b1, b2, b3⟩ := HA.out.1.cells)
  (have hn := HA.out.2; obtain ⟨c0, c1, c2, c3⟩ := cells4 hn; have f0 := free3 hn 0; have f1 := free3 hn 1; have f2 := free3 hn 2; have f3 := free3 hn 3; clear hn)
  go_wp2_with fail
  exact bodyPost_ret (ret_lmid _ _ _ _ _ _ _ rfl (put4 HA.out.2 _ _ _ _)) rfl ⟨by rfl, bel4 HA.out.1.2 (by omega) _ _ _ _⟩
set_option maxRecDepth 100000 in
set_option maxHeartbeats 2000000 in
theorem lmid_1 (n o i m : Int) (s : List UInt8) (w : World) (hs : s.length ≤ 9223372036854774000) (hi : 0 ≤ i) (hm : 0 ≤ m) (hi2 : i ≤ 18446744073709551615) (hm2 : m ≤ 18446744073709551615) (hn : 0 ≤ n) (hv : validV 1 s = true)  : Calls Try.prog 13 #[valV 1 n s o, .int .u64 i, .int .u64 m] w (CvPost w (valV 3 0 (cutL (little n.toNat 8) i m) 0, 0)) := by
  have HV := Lib.hid hv
  clear hv
  have HA := Lib.hid (CAt.start w 1 n s o)
  (obtain ⟨b0, b1, b2, b3⟩ := HA.out.1.cells)
  go_enter Try.func13, Try.ntmps13
  go_wp2_with fail
  ((with_reducible refine (valid_is 1 n o s true HV _ (by omega)).mono ?_))
  rintro e wx ⟨rfl, hb⟩
  (have HA2 := HA; clear HA; have HA := Lib.hid (HA2.out.below hb); clear HA2 hb b0 b1 b2 b3; obtain ⟨b0, b1, b2, b3⟩ := HA.out.1.cells)
  go_upto_region 3 with fail
  go_quiet (fail)
  (have HA2 := HA; clear HA; have HA := Lib.hid (HA2.out.drewN nq); clear HA2 b0 b1 b2 b3; obtain ⟨b0, b1, b2, b3⟩ := HA.out.1.cells)
  go_wp2_with fail
  ((with_reducible refine (intBytes_any n _ hn).mono ?_))
  rintro e wx ⟨l, HL, hl, rfl, hb⟩
  (have HA2 := HA; clear HA; have HA := Lib.hid (HA2.out.below hb); clear HA2 hb b0 b1 b2 b3; obtain ⟨b0, b1, b2, b3⟩ := HA.out.1.cells)
  have hl1 : (l.length : Int) ≤ 8 := by omega
  have hl2 : 8 ≤ (l.length : Int) := by omega
  clear hl
  (have hn := HA.out.2; obtain ⟨c0, c1, c2, c3⟩ := cells4 hn; have f0 := free3 hn 0; have f1 := free3 hn 1; have f2 := free3 hn 2; have f3 := free3 hn 3; clear hn)
  go_wp2_with fail
  exact bodyPost_ret (ret_lmid _ _ _ _ _ _ _ rfl (put4 HA.out.2 _ _ _ _)) rfl ⟨by rw [← HL.out]; exact mid_ret (mid_l l i m hi hm), bel4 HA.out.1.2 (by omega) _ _ _ _⟩
set_option maxRecDepth 100000 in
set_option maxHeartbeats 2000000 in
theorem lmid_2 (n o i m : Int) (s : List UInt8) (w : World) (hs : s.length ≤ 9223372036854774000) (hi : 0 ≤ i) (hm : 0 ≤ m) (hi2 : i ≤ 18446744073709551615) (hm2 : m ≤ 18446744073709551615) (hv : validV 2 s = true) (hl2 : s.length ≤ 255)  : Calls Try.prog 13 #[valV 2 n s o, .int .u64 i, .int .u64 m] w (CvPost w (valV 2 0 (cutL s i m) 0, 0)) := by
  have HV := Lib.hid hv
  clear hv
  have HA := Lib.hid (CAt.start w 2 n s o)
  (obtain ⟨b0, b1, b2, b3⟩ := HA.out.1.cells)
  go_enter Try.func13, Try.ntmps13
  go_wp2_with fail
  ((with_reducible refine (valid_is 2 n o s true HV _ (by omega)).mono ?_))
  rintro e wx ⟨rfl, hb⟩
  (have HA2 := HA; clear HA; have HA := Lib.hid (HA2.out.below hb); clear HA2 hb b0 b1 b2 b3; obtain ⟨b0, b1, b2, b3⟩ := HA.out.1.cells)
  go_upto_region 3 with fail
  go_quiet (fail)
  (have HA2 := HA; clear HA; have HA := Lib.hid (HA2.out.drewN nq); clear HA2 b0 b1 b2 b3; obtain ⟨b0, b1, b2, b3⟩ := HA.out.1.cells)
  (have hn := HA.out.2; obtain ⟨c0, c1, c2, c3⟩ := cells4 hn; have f0 := free3 hn 0; have f1 := free3 hn 1; have f2 := free3 hn 2; have f3 := free3 hn 3; clear hn)
  go_wp2_with fail
  exact bodyPost_ret (ret_lmid _ _ _ _ _ _ _ rfl (put4 HA.out.2 _ _ _ _)) rfl ⟨by exact mid_ret (mid_l s i m hi hm), bel4 HA.out.1.2 (by omega) _ _ _ _⟩
set_option maxRecDepth 100000 in
set_option maxHeartbeats 2000000 in
theorem lmid_3 (n o i m : Int) (s : List UInt8) (w : World) (hs : s.length ≤ 9223372036854774000) (hi : 0 ≤ i) (hm : 0 ≤ m) (hi2 : i ≤ 18446744073709551615) (hm2 : m ≤ 18446744073709551615) (hv : validV 3 s = true) (hl2 : s.length ≤ 255)  : Calls Try.prog 13 #[valV 3 n s o, .int .u64 i, .int .u64 m] w (CvPost w (valV 3 0 (cutL s i m) 0, 0)) := by
  have HV := Lib.hid hv
  clear hv
  have HA := Lib.hid (CAt.start w 3 n s o)
  (obtain ⟨b0, b1, b2, b3⟩ := HA.out.1.cells)
  go_enter Try.func13, Try.ntmps13
  go_wp2_with fail
  ((with_reducible refine (valid_is 3 n o s true HV _ (by omega)).mono ?_))
  rintro e wx ⟨rfl, hb⟩
  (have HA2 := HA; clear HA; have HA := Lib.hid (HA2.out.below hb); clear HA2 hb b0 b1 b2 b3; obtain ⟨b0, b1, b2, b3⟩ := HA.out.1.cells)
  go_upto_region 3 with fail
  go_quiet (fail)
  (have HA2 := HA; clear HA; have HA := Lib.hid (HA2.out.drewN nq); clear HA2 b0 b1 b2 b3; obtain ⟨b0, b1, b2, b3⟩ := HA.out.1.cells)
  (have hn := HA.out.2; obtain ⟨c0, c1, c2, c3⟩ := cells4 hn; have f0 := free3 hn 0; have f1 := free3 hn 1; have f2 := free3 hn 2; have f3 := free3 hn 3; clear hn)
  go_wp2_with fail
  exact bodyPost_ret (ret_lmid _ _ _ _ _ _ _ rfl (put4 HA.out.2 _ _ _ _)) rfl ⟨by exact mid_ret (mid_l s i m hi hm), bel4 HA.out.1.2 (by omega) _ _ _ _⟩
set_option maxRecDepth 100000 in
set_option maxHeartbeats 2000000 in
theorem rmid_bad (k n o i m : Int) (s : List UInt8) (w : World) (hs : s.length ≤ 9223372036854774000) (hi : 0 ≤ i) (hm : 0 ≤ m) (hi2 : i ≤ 18446744073709551615) (hm2 : m ≤ 18446744073709551615) (hv : validV k s = false) : Calls Try.prog 14 #[valV k n s o, .int .u64 i, .int .u64 m] w (CvPost w (badV 1)) := by
  have HV := Lib.hid hv
  clear hv
  have HA := Lib.hid (CAt.start w k n s o)
  (obtain ⟨b0, b1, b2, b3⟩ := HA.out.1.cells)
  go_enter Try.func14, Try.ntmps14
  go_wp2_with fail
  ((with_reducible refine (rvalid_is k n o s false HV _ (by omega)).mono ?_))
  rintro e wx ⟨rfl, hb⟩
  (have HA2 := HA; clear HA; have HA := Lib.hid (HA2.out.below hb); clear HA2 hb b0 b1 b2 b3; obtain ⟨b0, b1, b2, b3⟩ := HA.out.1.cells)
  (have hn := HA.out.2; obtain ⟨c0, c1, c2, c3⟩ := cells4 hn; have f0 := free3 hn 0; have f1 := free3 hn 1; have f2 := free3 hn 2; have f3 := free3 hn 3; clear hn)
  go_wp2_with fail
  exact bodyPost_ret (ret_rmid _ _ _ _ _ _ _ rfl (put4 HA.out.2 _ _ _ _)) rfl ⟨by rfl, bel4 HA.out.1.2 (by omega) _ _ _ _⟩
set_option maxRecDepth 100000 in
set_option maxHeartbeats 2000000 in
theorem rmid_type (k n o i m : Int) (s : List UInt8) (w : World) (hs : s.length ≤ 9223372036854774000) (hi : 0 ≤ i) (hm : 0 ≤ m) (hi2 : i ≤ 18446744073709551615) (hm2 : m ≤ 18446744073709551615) (hv : validV k s = true) (h1 : (k == 1) = false) (h2 : (k == 2) = false) (h3 : (k == 3) = false) : Calls Try.prog 14 #[valV k n s o, .int .u64 i, .int .u64 m] w (CvPost w (badV 10)) := by
  have HV := Lib.hid hv
  clear hv
  have HA := Lib.hid (CAt.start w k n s o)
  (obtain ⟨b0, b1, b2, b3⟩ := HA.out.1.cells)
  go_enter Try.func14, Try.ntmps14
  go_wp2_with fail
  ((with_reducible refine (rvalid_is k n o s true HV _ (by omega)).mono ?_))
  rintro e wx ⟨rfl, hb⟩
  (have HA2 := HA; clear HA; have HA := Lib.hid (HA2.out.below hb); clear HA2 hb b0 b1 b2 b3; obtain ⟨b0, b1, b2, b3⟩ := HA.out.1.cells)
  go_upto_region 3 with fail
  go_quiet (fail)
  (have HA2 := HA; clear HA; have HA := Lib.hid (HA2.out.drewN nq); clear HA2 b0 b1 b2 b3; obtain ⟨b0, b1, b2, b3⟩ := HA.out.1.cells)
  (have hn := HA.out.2; obtain ⟨c0, c1, c2, c3⟩ := cells4 hn; have f0 := free3 hn 0; have f1 := free3 hn 1; have f2 := free3 hn 2; have f3 := free3 hn 3; clear hn)
  go_wp2_with fail
  exact bodyPost_ret (ret_rmid _ _ _ _ _ _ _ rfl (put4 HA.out.2 _ _ _ _)) rfl ⟨by rfl, bel4 HA.out.1.2 (by omega) _ _ _ _⟩
set_option maxRecDepth 100000 in
set_option maxHeartbeats 2000000 in
theorem rmid_1a (n o i m : Int) (s : List UInt8) (w : World) (hs : s.length ≤ 9223372036854774000) (hi : 0 ≤ i) (hm : 0 ≤ m) (hi2 : i ≤ 18446744073709551615) (hm2 : m ≤ 18446744073709551615) (hn : 0 ≤ n) (hv : validV 1 s = true) (h1 : i < 8) (h2 : m < 8 - i) : Calls Try.prog 14 #[valV 1 n s o, .int .u64 i, .int .u64 m] w (CvPost w (valV 3 0 (cutL (little n.toNat 8) i m) 0, 0)) := by
  have HV := Lib.hid hv
  clear hv
  have HA := Lib.hid (CAt.start w 1 n s o)
  (obtain ⟨b0, b1, b2, b3⟩ := HA.out.1.cells)
  go_enter Try.func14, Try.ntmps14
  go_wp2_with fail
  ((with_reducible refine (rvalid_is 1 n o s true HV _ (by omega)).mono ?_))
  rintro e wx ⟨rfl, hb⟩
  (have HA2 := HA; clear HA; have HA := Lib.hid (HA2.out.below hb); clear HA2 hb b0 b1 b2 b3; obtain ⟨b0, b1, b2, b3⟩ := HA.out.1.cells)
  go_upto_region 3 with fail
  go_quiet (fail)
  (have HA2 := HA; clear HA; have HA := Lib.hid (HA2.out.drewN nq); clear HA2 b0 b1 b2 b3; obtain ⟨b0, b1, b2, b3⟩ := HA.out.1.cells)
  go_wp2_with fail
  ((with_reducible refine (rlittle_any n _ hn).mono ?_))
  rintro e wx ⟨l, HL, hl, rfl, hb⟩
  (have HA2 := HA; clear HA; have HA := Lib.hid (HA2.out.below hb); clear HA2 hb b0 b1 b2 b3; obtain ⟨b0, b1, b2, b3⟩ := HA.out.1.cells)
  have hl1 : (l.length : Int) ≤ 8 := by omega
  have hl2 : 8 ≤ (l.length : Int) := by omega
  clear hl
  (have hn := HA.out.2; obtain ⟨c0, c1, c2, c3⟩ := cells4 hn; have f0 := free3 hn 0; have f1 := free3 hn 1; have f2 := free3 hn 2; have f3 := free3 hn 3; clear hn)
  go_wp2_with fail
  exact bodyPost_ret (ret_rmid _ _ _ _ _ _ _ rfl (put4 HA.out.2 _ _ _ _)) rfl ⟨by rw [← HL.out]; exact mid_ret (rfl), bel4 HA.out.1.2 (by omega) _ _ _ _⟩
set_option maxRecDepth 100000 in
set_option maxHeartbeats 2000000 in
theorem rmid_1b (n o i m : Int) (s : List UInt8) (w : World) (hs : s.length ≤ 9223372036854774000) (hi : 0 ≤ i) (hm : 0 ≤ m) (hi2 : i ≤ 18446744073709551615) (hm2 : m ≤ 18446744073709551615) (hn : 0 ≤ n) (hv : validV 1 s = true) (h1 : i < 8) (h2 : 8 - i ≤ m) : Calls Try.prog 14 #[valV 1 n s o, .int .u64 i, .int .u64 m] w (CvPost w (valV 3 0 (cutL (little n.toNat 8) i m) 0, 0)) := by
  have HV := Lib.hid hv
  clear hv
  have HA := Lib.hid (CAt.start w 1 n s o)
  (obtain ⟨b0, b1, b2, b3⟩ := HA.out.1.cells)
  go_enter Try.func14, Try.ntmps14
  go_wp2_with fail
  ((with_reducible refine (rvalid_is 1 n o s true HV _ (by omega)).mono ?_))
  rintro e wx ⟨rfl, hb⟩
  (have HA2 := HA; clear HA; have HA := Lib.hid (HA2.out.below hb); clear HA2 hb b0 b1 b2 b3; obtain ⟨b0, b1, b2, b3⟩ := HA.out.1.cells)
  go_upto_region 3 with fail
  go_quiet (fail)
  (have HA2 := HA; clear HA; have HA := Lib.hid (HA2.out.drewN nq); clear HA2 b0 b1 b2 b3; obtain ⟨b0, b1, b2, b3⟩ := HA.out.1.cells)
  go_wp2_with fail
  ((with_reducible refine (rlittle_any n _ hn).mono ?_))
  rintro e wx ⟨l, HL, hl, rfl, hb⟩
  (have HA2 := HA; clear HA; have HA := Lib.hid (HA2.out.below hb); clear HA2 hb b0 b1 b2 b3; obtain ⟨b0, b1, b2, b3⟩ := HA.out.1.cells)
  have hl1 : (l.length : Int) ≤ 8 := by omega
  have hl2 : 8 ≤ (l.length : Int) := by omega
  clear hl
  (have hn := HA.out.2; obtain ⟨c0, c1, c2, c3⟩ := cells4 hn; have f0 := free3 hn 0; have f1 := free3 hn 1; have f2 := free3 hn 2; have f3 := free3 hn 3; clear hn)
  go_wp2_with fail
  exact bodyPost_ret (ret_rmid _ _ _ _ _ _ _ rfl (put4 HA.out.2 _ _ _ _)) rfl ⟨by rw [← HL.out]; exact mid_ret (mid_b l i m (by omega) (by omega)), bel4 HA.out.1.2 (by omega) _ _ _ _⟩
set_option maxRecDepth 100000 in
set_option maxHeartbeats 2000000 in
theorem rmid_1c (n o i m : Int) (s : List UInt8) (w : World) (hs : s.length ≤ 9223372036854774000) (hi : 0 ≤ i) (hm : 0 ≤ m) (hi2 : i ≤ 18446744073709551615) (hm2 : m ≤ 18446744073709551615) (hn : 0 ≤ n) (hv : validV 1 s = true) (h1 : 8 ≤ i) : Calls Try.prog 14 #[valV 1 n s o, .int .u64 i, .int .u64 m] w (CvPost w (valV 3 0 (cutL (little n.toNat 8) i m) 0, 0)) := by
  have HV := Lib.hid hv
  clear hv
  have HA := Lib.hid (CAt.start w 1 n s o)
  (obtain ⟨b0, b1, b2, b3⟩ := HA.out.1.cells)
  go_enter Try.func14, Try.ntmps14
  go_wp2_with fail
  ((with_reducible refine (rvalid_is 1 n o s true HV _ (by omega)).mono ?_))
  rintro e wx ⟨rfl, hb⟩
  (have HA2 := HA; clear HA; have HA := Lib.hid (HA2.out.below hb); clear HA2 hb b0 b1 b2 b3; obtain ⟨b0, b1, b2, b3⟩ := HA.out.1.cells)
  go_upto_region 3 with fail
  go_quiet (fail)
  (have HA2 := HA; clear HA; have HA := Lib.hid (HA2.out.drewN nq); clear HA2 b0 b1 b2 b3; obtain ⟨b0, b1, b2, b3⟩ := HA.out.1.cells)
  go_wp2_with fail
  ((with_reducible refine (rlittle_any n _ hn).mono ?_))
  rintro e wx ⟨l, HL, hl, rfl, hb⟩
  (have HA2 := HA; clear HA; have HA := Lib.hid (HA2.out.below hb); clear HA2 hb b0 b1 b2 b3; obtain ⟨b0, b1, b2, b3⟩ := HA.out.1.cells)
  have hl1 : (l.length : Int) ≤ 8 := by omega
  have hl2 : 8 ≤ (l.length : Int) := by omega
  clear hl
  (have hn := HA.out.2; obtain ⟨c0, c1, c2, c3⟩ := cells4 hn; have f0 := free3 hn 0; have f1 := free3 hn 1; have f2 := free3 hn 2; have f3 := free3 hn 3; clear hn)
  go_wp2_with fail
  exact bodyPost_ret (ret_rmid _ _ _ _ _ _ _ rfl (put4 HA.out.2 _ _ _ _)) rfl ⟨by rw [← HL.out]; exact mid_ret (mid_c l i m (by omega)), bel4 HA.out.1.2 (by omega) _ _ _ _⟩
set_option maxRecDepth 100000 in
set_option maxHeartbeats 2000000 in
theorem rmid_2a (n o i m : Int) (s : List UInt8) (w : World) (hs : s.length ≤ 9223372036854774000) (hi : 0 ≤ i) (hm : 0 ≤ m) (hi2 : i ≤ 18446744073709551615) (hm2 : m ≤ 18446744073709551615) (hv : validV 2 s = true) (hl2 : s.length ≤ 255) (h1 : i < (s.length : Int)) (h2 : m < (s.length : Int) - i) : Calls Try.prog 14 #[valV 2 n s o, .int .u64 i, .int .u64 m] w (CvPost w (valV 2 0 (cutL s i m) 0, 0)) := by
  have HV := Lib.hid hv
  clear hv
  have HA := Lib.hid (CAt.start w 2 n s o)
  (obtain ⟨b0, b1, b2, b3⟩ := HA.out.1.cells)
  go_enter Try.func14, Try.ntmps14
  go_wp2_with fail
  ((with_reducible refine (rvalid_is 2 n o s true HV _ (by omega)).mono ?_))
  rintro e wx ⟨rfl, hb⟩
  (have HA2 := HA; clear HA; have HA := Lib.hid (HA2.out.below hb); clear HA2 hb b0 b1 b2 b3; obtain ⟨b0, b1, b2, b3⟩ := HA.out.1.cells)
  go_upto_region 3 with fail
  go_quiet (fail)
  (have HA2 := HA; clear HA; have HA := Lib.hid (HA2.out.drewN nq); clear HA2 b0 b1 b2 b3; obtain ⟨b0, b1, b2, b3⟩ := HA.out.1.cells)
  (have hn := HA.out.2; obtain ⟨c0, c1, c2, c3⟩ := cells4 hn; have f0 := free3 hn 0; have f1 := free3 hn 1; have f2 := free3 hn 2; have f3 := free3 hn 3; clear hn)
  go_wp2_with fail
  exact bodyPost_ret (ret_rmid _ _ _ _ _ _ _ rfl (put4 HA.out.2 _ _ _ _)) rfl ⟨by exact mid_ret (rfl), bel4 HA.out.1.2 (by omega) _ _ _ _⟩
set_option maxRecDepth 100000 in
set_option maxHeartbeats 2000000 in
theorem rmid_2b (n o i m : Int) (s : List UInt8) (w : World) (hs : s.length ≤ 9223372036854774000) (hi : 0 ≤ i) (hm : 0 ≤ m) (hi2 : i ≤ 18446744073709551615) (hm2 : m ≤ 18446744073709551615) (hv : validV 2 s = true) (hl2 : s.length ≤ 255) (h1 : i < (s.length : Int)) (h2 : (s.length : Int) - i ≤ m) : Calls Try.prog 14 #[valV 2 n s o, .int .u64 i, .int .u64 m] w (CvPost w (valV 2 0 (cutL s i m) 0, 0)) := by
  have HV := Lib.hid hv
  clear hv
  have HA := Lib.hid (CAt.start w 2 n s o)
  (obtain ⟨b0, b1, b2, b3⟩ := HA.out.1.cells)
  go_enter Try.func14, Try.ntmps14
  go_wp2_with fail
  ((with_reducible refine (rvalid_is 2 n o s true HV _ (by omega)).mono ?_))
  rintro e wx ⟨rfl, hb⟩
  (have HA2 := HA; clear HA; have HA := Lib.hid (HA2.out.below hb); clear HA2 hb b0 b1 b2 b3; obtain ⟨b0, b1, b2, b3⟩ := HA.out.1.cells)
  go_upto_region 3 with fail
  go_quiet (fail)
  (have HA2 := HA; clear HA; have HA := Lib.hid (HA2.out.drewN nq); clear HA2 b0 b1 b2 b3; obtain ⟨b0, b1, b2, b3⟩ := HA.out.1.cells)
  (have hn := HA.out.2; obtain ⟨c0, c1, c2, c3⟩ := cells4 hn; have f0 := free3 hn 0; have f1 := free3 hn 1; have f2 := free3 hn 2; have f3 := free3 hn 3; clear hn)
  go_wp2_with fail
  exact bodyPost_ret (ret_rmid _ _ _ _ _ _ _ rfl (put4 HA.out.2 _ _ _ _)) rfl ⟨by exact mid_ret (mid_b s i m h1 h2), bel4 HA.out.1.2 (by omega) _ _ _ _⟩
set_option maxRecDepth 100000 in
set_option maxHeartbeats 2000000 in
theorem rmid_2c (n o i m : Int) (s : List UInt8) (w : World) (hs : s.length ≤ 9223372036854774000) (hi : 0 ≤ i) (hm : 0 ≤ m) (hi2 : i ≤ 18446744073709551615) (hm2 : m ≤ 18446744073709551615) (hv : validV 2 s = true) (hl2 : s.length ≤ 255) (h1 : (s.length : Int) ≤ i) : Calls Try.prog 14 #[valV 2 n s o, .int .u64 i, .int .u64 m] w (CvPost w (valV 2 0 (cutL s i m) 0, 0)) := by
  have HV := Lib.hid hv
  clear hv
  have HA := Lib.hid (CAt.start w 2 n s o)
  (obtain ⟨b0, b1, b2, b3⟩ := HA.out.1.cells)
  go_enter Try.func14, Try.ntmps14
  go_wp2_with fail
  ((with_reducible refine (rvalid_is 2 n o s true HV _ (by omega)).mono ?_))
  rintro e wx ⟨rfl, hb⟩
  (have HA2 := HA; clear HA; have HA := Lib.hid (HA2.out.below hb); clear HA2 hb b0 b1 b2 b3; obtain ⟨b0, b1, b2, b3⟩ := HA.out.1.cells)
  go_upto_region 3 with fail
  go_quiet (fail)
  (have HA2 := HA; clear HA; have HA := Lib.hid (HA2.out.drewN nq); clear HA2 b0 b1 b2 b3; obtain ⟨b0, b1, b2, b3⟩ := HA.out.1.cells)
  (have hn := HA.out.2; obtain ⟨c0, c1, c2, c3⟩ := cells4 hn; have f0 := free3 hn 0; have f1 := free3 hn 1; have f2 := free3 hn 2; have f3 := free3 hn 3; clear hn)
  go_wp2_with fail
  exact bodyPost_ret (ret_rmid _ _ _ _ _ _ _ rfl (put4 HA.out.2 _ _ _ _)) rfl ⟨by exact mid_ret (mid_c s i m h1), bel4 HA.out.1.2 (by omega) _ _ _ _⟩
set_option maxRecDepth 100000 in
set_option maxHeartbeats 2000000 in
theorem rmid_3a (n o i m : Int) (s : List UInt8) (w : World) (hs : s.length ≤ 9223372036854774000) (hi : 0 ≤ i) (hm : 0 ≤ m) (hi2 : i ≤ 18446744073709551615) (hm2 : m ≤ 18446744073709551615) (hv : validV 3 s = true) (hl2 : s.length ≤ 255) (h1 : i < (s.length : Int)) (h2 : m < (s.length : Int) - i) : Calls Try.prog 14 #[valV 3 n s o, .int .u64 i, .int .u64 m] w (CvPost w (valV 3 0 (cutL s i m) 0, 0)) := by
  have HV := Lib.hid hv
  clear hv
  have HA := Lib.hid (CAt.start w 3 n s o)
  (obtain ⟨b0, b1, b2, b3⟩ := HA.out.1.cells)
  go_enter Try.func14, Try.ntmps14
  go_wp2_with fail
  ((with_reducible refine (rvalid_is 3 n o s true HV _ (by omega)).mono ?_))
  rintro e wx ⟨rfl, hb⟩
  (have HA2 := HA; clear HA; have HA := Lib.hid (HA2.out.below hb); clear HA2 hb b0 b1 b2 b3; obtain ⟨b0, b1, b2, b3⟩ := HA.out.1.cells)
  go_upto_region 3 with fail
  go_quiet (fail)
  (have HA2 := HA; clear HA; have HA := Lib.hid (HA2.out.drewN nq); clear HA2 b0 b1 b2 b3; obtain ⟨b0, b1, b2, b3⟩ := HA.out.1.cells)
  (have hn := HA.out.2; obtain ⟨c0, c1, c2, c3⟩ := cells4 hn; have f0 := free3 hn 0; have f1 := free3 hn 1; have f2 := free3 hn 2; have f3 := free3 hn 3; clear hn)
  go_wp2_with fail
  exact bodyPost_ret (ret_rmid _ _ _ _ _ _ _ rfl (put4 HA.out.2 _ _ _ _)) rfl ⟨by exact mid_ret (rfl), bel4 HA.out.1.2 (by omega) _ _ _ _⟩
set_option maxRecDepth 100000 in
set_option maxHeartbeats 2000000 in
theorem rmid_3b (n o i m : Int) (s : List UInt8) (w : World) (hs : s.length ≤ 9223372036854774000) (hi : 0 ≤ i) (hm : 0 ≤ m) (hi2 : i ≤ 18446744073709551615) (hm2 : m ≤ 18446744073709551615) (hv : validV 3 s = true) (hl2 : s.length ≤ 255) (h1 : i < (s.length : Int)) (h2 : (s.length : Int) - i ≤ m) : Calls Try.prog 14 #[valV 3 n s o, .int .u64 i, .int .u64 m] w (CvPost w (valV 3 0 (cutL s i m) 0, 0)) := by
  have HV := Lib.hid hv
  clear hv
  have HA := Lib.hid (CAt.start w 3 n s o)
  (obtain ⟨b0, b1, b2, b3⟩ := HA.out.1.cells)
  go_enter Try.func14, Try.ntmps14
  go_wp2_with fail
  ((with_reducible refine (rvalid_is 3 n o s true HV _ (by omega)).mono ?_))
  rintro e wx ⟨rfl, hb⟩
  (have HA2 := HA; clear HA; have HA := Lib.hid (HA2.out.below hb); clear HA2 hb b0 b1 b2 b3; obtain ⟨b0, b1, b2, b3⟩ := HA.out.1.cells)
  go_upto_region 3 with fail
  go_quiet (fail)
  (have HA2 := HA; clear HA; have HA := Lib.hid (HA2.out.drewN nq); clear HA2 b0 b1 b2 b3; obtain ⟨b0, b1, b2, b3⟩ := HA.out.1.cells)
  (have hn := HA.out.2; obtain ⟨c0, c1, c2, c3⟩ := cells4 hn; have f0 := free3 hn 0; have f1 := free3 hn 1; have f2 := free3 hn 2; have f3 := free3 hn 3; clear hn)
  go_wp2_with fail
  exact bodyPost_ret (ret_rmid _ _ _ _ _ _ _ rfl (put4 HA.out.2 _ _ _ _)) rfl ⟨by exact mid_ret (mid_b s i m h1 h2), bel4 HA.out.1.2 (by omega) _ _ _ _⟩
set_option maxRecDepth 100000 in
set_option maxHeartbeats 2000000 in
theorem rmid_3c (n o i m : Int) (s : List UInt8) (w : World) (hs : s.length ≤ 9223372036854774000) (hi : 0 ≤ i) (hm : 0 ≤ m) (hi2 : i ≤ 18446744073709551615) (hm2 : m ≤ 18446744073709551615) (hv : validV 3 s = true) (hl2 : s.length ≤ 255) (h1 : (s.length : Int) ≤ i) : Calls Try.prog 14 #[valV 3 n s o, .int .u64 i, .int .u64 m] w (CvPost w (valV 3 0 (cutL s i m) 0, 0)) := by
  have HV := Lib.hid hv
  clear hv
  have HA := Lib.hid (CAt.start w 3 n s o)
  (obtain ⟨b0, b1, b2, b3⟩ := HA.out.1.cells)
  go_enter Try.func14, Try.ntmps14
  go_wp2_with fail
  ((with_reducible refine (rvalid_is 3 n o s true HV _ (by omega)).mono ?_))
  rintro e wx ⟨rfl, hb⟩
  (have HA2 := HA; clear HA; have HA := Lib.hid (HA2.out.below hb); clear HA2 hb b0 b1 b2 b3; obtain ⟨b0, b1, b2, b3⟩ := HA.out.1.cells)
  go_upto_region 3 with fail
  go_quiet (fail)
  (have HA2 := HA; clear HA; have HA := Lib.hid (HA2.out.drewN nq); clear HA2 b0 b1 b2 b3; obtain ⟨b0, b1, b2, b3⟩ := HA.out.1.cells)
  (have hn := HA.out.2; obtain ⟨c0, c1, c2, c3⟩ := cells4 hn; have f0 := free3 hn 0; have f1 := free3 hn 1; have f2 := free3 hn 2; have f3 := free3 hn 3; clear hn)
  go_wp2_with fail
  exact bodyPost_ret (ret_rmid _ _ _ _ _ _ _ rfl (put4 HA.out.2 _ _ _ _)) rfl ⟨by exact mid_ret (mid_c s i m h1), bel4 HA.out.1.2 (by omega) _ _ _ _⟩
theorem lmid_any (k n o i m : Int) (s : List UInt8) (w : World) (hs : s.length ≤ 9223372036854774000) (hi : 0 ≤ i) (hm : 0 ≤ m) (hi2 : i ≤ 18446744073709551615) (hm2 : m ≤ 18446744073709551615) (hn : 0 ≤ n) : Calls Try.prog 13 #[valV k n s o, .int .u64 i, .int .u64 m] w (CvPost w (midV k n s i m)) := by
  unfold midV
  cases hv : validV k s
  · rw [if_pos rfl]; exact lmid_bad k n o i m s w hs hi hm hi2 hm2 hv
  rw [if_neg (by decide)]
  by_cases h1 : k = 1
  · subst h1
    rw [if_pos rfl]
    exact lmid_1 n o i m s w hs hi hm hi2 hm2 hn hv
  rw [if_neg h1]
  by_cases h23 : k = 2 ∨ k = 3
  · rw [if_pos h23]
    have hl : s.length ≤ 255 := by
      have := hv
      unfold validV at this
      rw [decide_eq_true_eq] at this
      omega
    rcases h23 with rfl | rfl
    · exact lmid_2 n o i m s w hs hi hm hi2 hm2 hv hl
    · exact lmid_3 n o i m s w hs hi hm hi2 hm2 hv hl
  · rw [if_neg h23]
    exact lmid_type k n o i m s w hs hi hm hi2 hm2 hv (by rw [beq_eq_false_iff_ne]; omega) (by rw [beq_eq_false_iff_ne]; omega) (by rw [beq_eq_false_iff_ne]; omega)
theorem rmid_any (k n o i m : Int) (s : List UInt8) (w : World) (hs : s.length ≤ 9223372036854774000) (hi : 0 ≤ i) (hm : 0 ≤ m) (hi2 : i ≤ 18446744073709551615) (hm2 : m ≤ 18446744073709551615) (hn : 0 ≤ n) : Calls Try.prog 14 #[valV k n s o, .int .u64 i, .int .u64 m] w (CvPost w (midV k n s i m)) := by
  unfold midV
  cases hv : validV k s
  · rw [if_pos rfl]; exact rmid_bad k n o i m s w hs hi hm hi2 hm2 hv
  rw [if_neg (by decide)]
  by_cases h1 : k = 1
  · subst h1
    rw [if_pos rfl]
    by_cases c1 : i < 8
    · by_cases c2 : m < 8 - i
      · exact rmid_1a n o i m s w hs hi hm hi2 hm2 hn hv c1 c2
      · exact rmid_1b n o i m s w hs hi hm hi2 hm2 hn hv c1 (by omega)
    · exact rmid_1c n o i m s w hs hi hm hi2 hm2 hn hv (by omega)
  rw [if_neg h1]
  by_cases h23 : k = 2 ∨ k = 3
  · rw [if_pos h23]
    have hl : s.length ≤ 255 := by
      have := hv
      unfold validV at this
      rw [decide_eq_true_eq] at this
      omega
    rcases h23 with rfl | rfl
    · by_cases c1 : i < (s.length : Int)
      · by_cases c2 : m < (s.length : Int) - i
        · exact rmid_2a n o i m s w hs hi hm hi2 hm2 hv hl c1 c2
        · exact rmid_2b n o i m s w hs hi hm hi2 hm2 hv hl c1 (by omega)
      · exact rmid_2c n o i m s w hs hi hm hi2 hm2 hv hl (by omega)
    · by_cases c1 : i < (s.length : Int)
      · by_cases c2 : m < (s.length : Int) - i
        · exact rmid_3a n o i m s w hs hi hm hi2 hm2 hv hl c1 c2
        · exact rmid_3b n o i m s w hs hi hm hi2 hm2 hv hl c1 (by omega)
      · exact rmid_3c n o i m s w hs hi hm hi2 hm2 hv hl (by omega)
  · rw [if_neg h23]
    exact rmid_type k n o i m s w hs hi hm hi2 hm2 hv (by rw [beq_eq_false_iff_ne]; omega) (by rw [beq_eq_false_iff_ne]; omega) (by rw [beq_eq_false_iff_ne]; omega)
end Go.Proofs.Yteifmjhkedhomaa
