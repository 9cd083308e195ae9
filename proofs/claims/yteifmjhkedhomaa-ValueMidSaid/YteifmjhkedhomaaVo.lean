/- Binary of the reference, Mid of both: the walks. -/
import Derived.Test.YteifmjhkedhomaaVn
namespace Go.Proofs.Yteifmjhkedhomaa
open Go.RowKit
set_option linter.unusedVariables false
attribute [local go_sem] ByteArray.mk_append_mk bs_get bs_cut bs_end conv1 conv2

def prR (op k1 n1 : Int) (s1 : List UInt8) (k2 n2 : Int) (s2 : List UInt8) : Value × Int := if ¬ (k1 = 1 ∨ k1 = 2 ∨ k1 = 3) then badV 10 else if (cvK k2 n2 s2 k1).2.2 ≠ 0 then badV (cvK k2 n2 s2 k1).2.2 else pairV op k1 n1 s1 (cvK k2 n2 s2 k1).1 (cvK k2 n2 s2 k1).2.1
theorem prR_form (op k1 n1 : Int) (s1 : List UInt8) (k2 n2 : Int) (s2 : List UInt8) : ∃ (a b : Int) (t : List UInt8) (c : Int), (prR op k1 n1 s1 k2 n2 s2).1 = valV a b t c := by
  unfold prR
  split
  · exact ⟨0, 0, [], 0, rfl⟩
  · split
    · exact ⟨0, 0, [], 0, rfl⟩
    · unfold pairV
      split
      · exact cat_form _ _ _ _ _
      · exact ⟨_, _, _, _, rfl⟩
set_option maxRecDepth 100000 in
set_option maxHeartbeats 2000000 in
theorem rbin_bad1 (op k1 n1 o1 k2 n2 o2 : Int) (s1 s2 : List UInt8) (w : World) (hs1 : s1.length ≤ 9223372036854774000) (hs2 : s2.length ≤ 9223372036854774000) (hv1 : validV k1 s1 = false) : Calls Try.prog 7 #[.int .i64 op, valV k1 n1 s1 o1, valV k2 n2 s2 o2] w (CvPost w (badV 1)) := by
  have HV1 := Lib.hid hv1
  clear hv1
  have HA := Lib.hid (B2.start w (vObj k1 n1 s1 o1) (vObj k2 n2 s2 o2))
  (obtain ⟨a0, a1, a2, a3⟩ := cells4 HA.out.1.1; obtain ⟨b0, b1, b2, b3⟩ := cells4 HA.out.1.2.1)
  go_enter Try.func7, Try.ntmps7
  go_wp2_with fail
  ((with_reducible refine (rvalid_is k1 n1 o1 s1 false HV1 _ (by omega)).mono ?_))
  rintro e wx ⟨rfl, hb⟩
  (have HA2 := HA; clear HA; have HA := Lib.hid (HA2.out.below hb); clear HA2 hb; clear a0 a1 a2 a3 b0 b1 b2 b3; obtain ⟨a0, a1, a2, a3⟩ := cells4 HA.out.1.1; obtain ⟨b0, b1, b2, b3⟩ := cells4 HA.out.1.2.1)
  (have hn := HA.out.1.2.2; obtain ⟨c0, c1, c2, c3⟩ := cells4 hn; have f0 := free3 hn 0; have f1 := free3 hn 1; have f2 := free3 hn 2; have f3 := free3 hn 3; clear hn)
  go_wp2_with fail
  exact bodyPost_ret (ret_rbin _ _ _ _ _ _ _ rfl (put4 HA.out.1.2.2 _ _ _ _)) rfl ⟨by rfl, bel4 HA.out.2 (by omega) _ _ _ _⟩
set_option maxRecDepth 100000 in
set_option maxHeartbeats 2000000 in
theorem rbin_bad2 (op k1 n1 o1 k2 n2 o2 : Int) (s1 s2 : List UInt8) (w : World) (hs1 : s1.length ≤ 9223372036854774000) (hs2 : s2.length ≤ 9223372036854774000) (hv1 : validV k1 s1 = true) (hv2 : validV k2 s2 = false) : Calls Try.prog 7 #[.int .i64 op, valV k1 n1 s1 o1, valV k2 n2 s2 o2] w (CvPost w (badV 1)) := by
  have HV1 := Lib.hid hv1
  clear hv1
  have HV2 := Lib.hid hv2
  clear hv2
  have HA := Lib.hid (B2.start w (vObj k1 n1 s1 o1) (vObj k2 n2 s2 o2))
  (obtain ⟨a0, a1, a2, a3⟩ := cells4 HA.out.1.1; obtain ⟨b0, b1, b2, b3⟩ := cells4 HA.out.1.2.1)
  go_enter Try.func7, Try.ntmps7
  go_wp2_with fail
  ((with_reducible refine (rvalid_is k1 n1 o1 s1 true HV1 _ (by omega)).mono ?_))
  rintro e wx ⟨rfl, hb⟩
  (have HA2 := HA; clear HA; have HA := Lib.hid (HA2.out.below hb); clear HA2 hb; clear a0 a1 a2 a3 b0 b1 b2 b3; obtain ⟨a0, a1, a2, a3⟩ := cells4 HA.out.1.1; obtain ⟨b0, b1, b2, b3⟩ := cells4 HA.out.1.2.1)
  go_wp2_with fail
  ((with_reducible refine (rvalid_is k2 n2 o2 s2 false HV2 _ (by omega)).mono ?_))
  rintro e wx ⟨rfl, hb⟩
  (have HA2 := HA; clear HA; have HA := Lib.hid (HA2.out.below hb); clear HA2 hb; clear a0 a1 a2 a3 b0 b1 b2 b3; obtain ⟨a0, a1, a2, a3⟩ := cells4 HA.out.1.1; obtain ⟨b0, b1, b2, b3⟩ := cells4 HA.out.1.2.1)
  (have hn := HA.out.1.2.2; obtain ⟨c0, c1, c2, c3⟩ := cells4 hn; have f0 := free3 hn 0; have f1 := free3 hn 1; have f2 := free3 hn 2; have f3 := free3 hn 3; clear hn)
  go_wp2_with fail
  exact bodyPost_ret (ret_rbin _ _ _ _ _ _ _ rfl (put4 HA.out.1.2.2 _ _ _ _)) rfl ⟨by rfl, bel4 HA.out.2 (by omega) _ _ _ _⟩
set_option maxRecDepth 100000 in
set_option maxHeartbeats 2000000 in
theorem rbin_low (op k1 n1 o1 k2 n2 o2 : Int) (s1 s2 : List UInt8) (w : World) (hs1 : s1.length ≤ 9223372036854774000) (hs2 : s2.length ≤ 9223372036854774000) (hv1 : validV k1 s1 = true) (hv2 : validV k2 s2 = true) (ho : op < 60) : Calls Try.prog 7 #[.int .i64 op, valV k1 n1 s1 o1, valV k2 n2 s2 o2] w (CvPost w (badV 1)) := by
  have HV1 := Lib.hid hv1
  clear hv1
  have HV2 := Lib.hid hv2
  clear hv2
  have HA := Lib.hid (B2.start w (vObj k1 n1 s1 o1) (vObj k2 n2 s2 o2))
  (obtain ⟨a0, a1, a2, a3⟩ := cells4 HA.out.1.1; obtain ⟨b0, b1, b2, b3⟩ := cells4 HA.out.1.2.1)
  go_enter Try.func7, Try.ntmps7
  go_wp2_with fail
  ((with_reducible refine (rvalid_is k1 n1 o1 s1 true HV1 _ (by omega)).mono ?_))
  rintro e wx ⟨rfl, hb⟩
  (have HA2 := HA; clear HA; have HA := Lib.hid (HA2.out.below hb); clear HA2 hb; clear a0 a1 a2 a3 b0 b1 b2 b3; obtain ⟨a0, a1, a2, a3⟩ := cells4 HA.out.1.1; obtain ⟨b0, b1, b2, b3⟩ := cells4 HA.out.1.2.1)
  go_wp2_with fail
  ((with_reducible refine (rvalid_is k2 n2 o2 s2 true HV2 _ (by omega)).mono ?_))
  rintro e wx ⟨rfl, hb⟩
  (have HA2 := HA; clear HA; have HA := Lib.hid (HA2.out.below hb); clear HA2 hb; clear a0 a1 a2 a3 b0 b1 b2 b3; obtain ⟨a0, a1, a2, a3⟩ := cells4 HA.out.1.1; obtain ⟨b0, b1, b2, b3⟩ := cells4 HA.out.1.2.1)
  (have hn := HA.out.1.2.2; obtain ⟨c0, c1, c2, c3⟩ := cells4 hn; have f0 := free3 hn 0; have f1 := free3 hn 1; have f2 := free3 hn 2; have f3 := free3 hn 3; clear hn)
  go_wp2_with fail
  exact bodyPost_ret (ret_rbin _ _ _ _ _ _ _ rfl (put4 HA.out.1.2.2 _ _ _ _)) rfl ⟨by rfl, bel4 HA.out.2 (by omega) _ _ _ _⟩
set_option maxRecDepth 100000 in
set_option maxHeartbeats 2000000 in
theorem rbin_high (op k1 n1 o1 k2 n2 o2 : Int) (s1 s2 : List UInt8) (w : World) (hs1 : s1.length ≤ 9223372036854774000) (hs2 : s2.length ≤ 9223372036854774000) (hv1 : validV k1 s1 = true) (hv2 : validV k2 s2 = true) (ho : 75 < op) : Calls Try.prog 7 #[.int .i64 op, valV k1 n1 s1 o1, valV k2 n2 s2 o2] w (CvPost w (badV 1)) := by
  have HV1 := Lib.hid hv1
  clear hv1
  have HV2 := Lib.hid hv2
  clear hv2
  have HA := Lib.hid (B2.start w (vObj k1 n1 s1 o1) (vObj k2 n2 s2 o2))
  (obtain ⟨a0, a1, a2, a3⟩ := cells4 HA.out.1.1; obtain ⟨b0, b1, b2, b3⟩ := cells4 HA.out.1.2.1)
  go_enter Try.func7, Try.ntmps7
  go_wp2_with fail
  ((with_reducible refine (rvalid_is k1 n1 o1 s1 true HV1 _ (by omega)).mono ?_))
  rintro e wx ⟨rfl, hb⟩
  (have HA2 := HA; clear HA; have HA := Lib.hid (HA2.out.below hb); clear HA2 hb; clear a0 a1 a2 a3 b0 b1 b2 b3; obtain ⟨a0, a1, a2, a3⟩ := cells4 HA.out.1.1; obtain ⟨b0, b1, b2, b3⟩ := cells4 HA.out.1.2.1)
  go_wp2_with fail
  ((with_reducible refine (rvalid_is k2 n2 o2 s2 true HV2 _ (by omega)).mono ?_))
  rintro e wx ⟨rfl, hb⟩
  (have HA2 := HA; clear HA; have HA := Lib.hid (HA2.out.below hb); clear HA2 hb; clear a0 a1 a2 a3 b0 b1 b2 b3; obtain ⟨a0, a1, a2, a3⟩ := cells4 HA.out.1.1; obtain ⟨b0, b1, b2, b3⟩ := cells4 HA.out.1.2.1)
  (have hn := HA.out.1.2.2; obtain ⟨c0, c1, c2, c3⟩ := cells4 hn; have f0 := free3 hn 0; have f1 := free3 hn 1; have f2 := free3 hn 2; have f3 := free3 hn 3; clear hn)
  go_wp2_with fail
  exact bodyPost_ret (ret_rbin _ _ _ _ _ _ _ rfl (put4 HA.out.1.2.2 _ _ _ _)) rfl ⟨by rfl, bel4 HA.out.2 (by omega) _ _ _ _⟩
set_option maxRecDepth 100000 in
set_option maxHeartbeats 2000000 in
theorem rbin_ar1 (op k1 n1 o1 k2 n2 o2 : Int) (s1 s2 : List UInt8) (w : World) (hs1 : s1.length ≤ 9223372036854774000) (hs2 : s2.length ≤ 9223372036854774000) (hv1 : validV k1 s1 = true) (hv2 : validV k2 s2 = true) (ho : 60 ≤ op) (ho2 : op ≤ 71) (x e1 : Int) (HI1 : Hid (intV k1 n1 s1 = (x, e1))) (h1 : e1 ≠ 0) : Calls Try.prog 7 #[.int .i64 op, valV k1 n1 s1 o1, valV k2 n2 s2 o2] w (CvPost w (badV e1)) := by
  have HV1 := Lib.hid hv1
  clear hv1
  have HV2 := Lib.hid hv2
  clear hv2
  have he' : (e1 != 0) = true := by rw [bne_iff_ne]; exact h1
  clear h1
  have HA := Lib.hid (B2.start w (vObj k1 n1 s1 o1) (vObj k2 n2 s2 o2))
  (obtain ⟨a0, a1, a2, a3⟩ := cells4 HA.out.1.1; obtain ⟨b0, b1, b2, b3⟩ := cells4 HA.out.1.2.1)
  go_enter Try.func7, Try.ntmps7
  go_wp2_with fail
  ((with_reducible refine (rvalid_is k1 n1 o1 s1 true HV1 _ (by omega)).mono ?_))
  rintro e wx ⟨rfl, hb⟩
  (have HA2 := HA; clear HA; have HA := Lib.hid (HA2.out.below hb); clear HA2 hb; clear a0 a1 a2 a3 b0 b1 b2 b3; obtain ⟨a0, a1, a2, a3⟩ := cells4 HA.out.1.1; obtain ⟨b0, b1, b2, b3⟩ := cells4 HA.out.1.2.1)
  go_wp2_with fail
  ((with_reducible refine (rvalid_is k2 n2 o2 s2 true HV2 _ (by omega)).mono ?_))
  rintro e wx ⟨rfl, hb⟩
  (have HA2 := HA; clear HA; have HA := Lib.hid (HA2.out.below hb); clear HA2 hb; clear a0 a1 a2 a3 b0 b1 b2 b3; obtain ⟨a0, a1, a2, a3⟩ := cells4 HA.out.1.1; obtain ⟨b0, b1, b2, b3⟩ := cells4 HA.out.1.2.1)
  go_wp2_with fail
  ((with_reducible refine (rinteger_any k1 n1 o1 s1 _ (by omega)).mono ?_))
  rintro e wx ⟨rfl, hb⟩
  rw [HI1.out]
  (have HA2 := HA; clear HA; have HA := Lib.hid (HA2.out.below hb); clear HA2 hb; clear a0 a1 a2 a3 b0 b1 b2 b3; obtain ⟨a0, a1, a2, a3⟩ := cells4 HA.out.1.1; obtain ⟨b0, b1, b2, b3⟩ := cells4 HA.out.1.2.1)
  (have hn := HA.out.1.2.2; obtain ⟨c0, c1, c2, c3⟩ := cells4 hn; have f0 := free3 hn 0; have f1 := free3 hn 1; have f2 := free3 hn 2; have f3 := free3 hn 3; clear hn)
  go_wp2_with fail
  exact bodyPost_ret (ret_rbin _ _ _ _ _ _ _ rfl (put4 HA.out.1.2.2 _ _ _ _)) rfl ⟨by rfl, bel4 HA.out.2 (by omega) _ _ _ _⟩
set_option maxRecDepth 100000 in
set_option maxHeartbeats 2000000 in
theorem rbin_ar2 (op k1 n1 o1 k2 n2 o2 : Int) (s1 s2 : List UInt8) (w : World) (hs1 : s1.length ≤ 9223372036854774000) (hs2 : s2.length ≤ 9223372036854774000) (hv1 : validV k1 s1 = true) (hv2 : validV k2 s2 = true) (ho : 60 ≤ op) (ho2 : op ≤ 71) (x y e2 : Int) (HI1 : Hid (intV k1 n1 s1 = (x, 0))) (HI2 : Hid (intV k2 n2 s2 = (y, e2))) (h2 : e2 ≠ 0) : Calls Try.prog 7 #[.int .i64 op, valV k1 n1 s1 o1, valV k2 n2 s2 o2] w (CvPost w (badV e2)) := by
  have HV1 := Lib.hid hv1
  clear hv1
  have HV2 := Lib.hid hv2
  clear hv2
  have he' : (e2 != 0) = true := by rw [bne_iff_ne]; exact h2
  clear h2
  have HA := Lib.hid (B2.start w (vObj k1 n1 s1 o1) (vObj k2 n2 s2 o2))
  (obtain ⟨a0, a1, a2, a3⟩ := cells4 HA.out.1.1; obtain ⟨b0, b1, b2, b3⟩ := cells4 HA.out.1.2.1)
  go_enter Try.func7, Try.ntmps7
  go_wp2_with fail
  ((with_reducible refine (rvalid_is k1 n1 o1 s1 true HV1 _ (by omega)).mono ?_))
  rintro e wx ⟨rfl, hb⟩
  (have HA2 := HA; clear HA; have HA := Lib.hid (HA2.out.below hb); clear HA2 hb; clear a0 a1 a2 a3 b0 b1 b2 b3; obtain ⟨a0, a1, a2, a3⟩ := cells4 HA.out.1.1; obtain ⟨b0, b1, b2, b3⟩ := cells4 HA.out.1.2.1)
  go_wp2_with fail
  ((with_reducible refine (rvalid_is k2 n2 o2 s2 true HV2 _ (by omega)).mono ?_))
  rintro e wx ⟨rfl, hb⟩
  (have HA2 := HA; clear HA; have HA := Lib.hid (HA2.out.below hb); clear HA2 hb; clear a0 a1 a2 a3 b0 b1 b2 b3; obtain ⟨a0, a1, a2, a3⟩ := cells4 HA.out.1.1; obtain ⟨b0, b1, b2, b3⟩ := cells4 HA.out.1.2.1)
  go_wp2_with fail
  ((with_reducible refine (rinteger_any k1 n1 o1 s1 _ (by omega)).mono ?_))
  rintro e wx ⟨rfl, hb⟩
  rw [HI1.out]
  (have HA2 := HA; clear HA; have HA := Lib.hid (HA2.out.below hb); clear HA2 hb; clear a0 a1 a2 a3 b0 b1 b2 b3; obtain ⟨a0, a1, a2, a3⟩ := cells4 HA.out.1.1; obtain ⟨b0, b1, b2, b3⟩ := cells4 HA.out.1.2.1)
  go_wp2_with fail
  ((with_reducible refine (rinteger_any k2 n2 o2 s2 _ (by omega)).mono ?_))
  rintro e wx ⟨rfl, hb⟩
  rw [HI2.out]
  (have HA2 := HA; clear HA; have HA := Lib.hid (HA2.out.below hb); clear HA2 hb; clear a0 a1 a2 a3 b0 b1 b2 b3; obtain ⟨a0, a1, a2, a3⟩ := cells4 HA.out.1.1; obtain ⟨b0, b1, b2, b3⟩ := cells4 HA.out.1.2.1)
  (have hn := HA.out.1.2.2; obtain ⟨c0, c1, c2, c3⟩ := cells4 hn; have f0 := free3 hn 0; have f1 := free3 hn 1; have f2 := free3 hn 2; have f3 := free3 hn 3; clear hn)
  go_wp2_with fail
  exact bodyPost_ret (ret_rbin _ _ _ _ _ _ _ rfl (put4 HA.out.1.2.2 _ _ _ _)) rfl ⟨by rfl, bel4 HA.out.2 (by omega) _ _ _ _⟩
set_option maxRecDepth 100000 in
set_option maxHeartbeats 2000000 in
theorem rbin_ar (op k1 n1 o1 k2 n2 o2 : Int) (s1 s2 : List UInt8) (w : World) (hs1 : s1.length ≤ 9223372036854774000) (hs2 : s2.length ≤ 9223372036854774000) (hv1 : validV k1 s1 = true) (hv2 : validV k2 s2 = true) (ho : 60 ≤ op) (ho2 : op ≤ 71) (x y : Int) (HI1 : Hid (intV k1 n1 s1 = (x, 0))) (HI2 : Hid (intV k2 n2 s2 = (y, 0))) (hx : 0 ≤ x) (hx2 : x ≤ 18446744073709551615) (hy : 0 ≤ y) (hy2 : y ≤ 18446744073709551615) : Calls Try.prog 7 #[.int .i64 op, valV k1 n1 s1 o1, valV k2 n2 s2 o2] w (CvPost w (valE (arV op x y), (arV op x y).2)) := by
  have HV1 := Lib.hid hv1
  clear hv1
  have HV2 := Lib.hid hv2
  clear hv2
  obtain ⟨r, hr⟩ : ∃ r, arV op x y = r := ⟨_, rfl⟩
  obtain ⟨va, vb, vt, vc, hf⟩ := valE_form r
  have HR := Lib.hid hr
  have HF := Lib.hid hf
  clear hr hf
  have HA := Lib.hid (B2.start w (vObj k1 n1 s1 o1) (vObj k2 n2 s2 o2))
  (obtain ⟨a0, a1, a2, a3⟩ := cells4 HA.out.1.1; obtain ⟨b0, b1, b2, b3⟩ := cells4 HA.out.1.2.1)
  go_enter Try.func7, Try.ntmps7
  go_wp2_with fail
  ((with_reducible refine (rvalid_is k1 n1 o1 s1 true HV1 _ (by omega)).mono ?_))
  rintro e wx ⟨rfl, hb⟩
  (have HA2 := HA; clear HA; have HA := Lib.hid (HA2.out.below hb); clear HA2 hb; clear a0 a1 a2 a3 b0 b1 b2 b3; obtain ⟨a0, a1, a2, a3⟩ := cells4 HA.out.1.1; obtain ⟨b0, b1, b2, b3⟩ := cells4 HA.out.1.2.1)
  go_wp2_with fail
  ((with_reducible refine (rvalid_is k2 n2 o2 s2 true HV2 _ (by omega)).mono ?_))
  rintro e wx ⟨rfl, hb⟩
  (have HA2 := HA; clear HA; have HA := Lib.hid (HA2.out.below hb); clear HA2 hb; clear a0 a1 a2 a3 b0 b1 b2 b3; obtain ⟨a0, a1, a2, a3⟩ := cells4 HA.out.1.1; obtain ⟨b0, b1, b2, b3⟩ := cells4 HA.out.1.2.1)
  go_wp2_with fail
  ((with_reducible refine (rinteger_any k1 n1 o1 s1 _ (by omega)).mono ?_))
  rintro e wx ⟨rfl, hb⟩
  rw [HI1.out]
  (have HA2 := HA; clear HA; have HA := Lib.hid (HA2.out.below hb); clear HA2 hb; clear a0 a1 a2 a3 b0 b1 b2 b3; obtain ⟨a0, a1, a2, a3⟩ := cells4 HA.out.1.1; obtain ⟨b0, b1, b2, b3⟩ := cells4 HA.out.1.2.1)
  go_wp2_with fail
  ((with_reducible refine (rinteger_any k2 n2 o2 s2 _ (by omega)).mono ?_))
  rintro e wx ⟨rfl, hb⟩
  rw [HI2.out]
  (have HA2 := HA; clear HA; have HA := Lib.hid (HA2.out.below hb); clear HA2 hb; clear a0 a1 a2 a3 b0 b1 b2 b3; obtain ⟨a0, a1, a2, a3⟩ := cells4 HA.out.1.1; obtain ⟨b0, b1, b2, b3⟩ := cells4 HA.out.1.2.1)
  go_wp2_with fail
  ((with_reducible refine (rar_any op x y _ ho ho2 hx hx2 hy hy2).mono ?_))
  rintro e wx ⟨rfl, hb⟩
  rw [HR.out, HF.out]
  (have HA2 := HA; clear HA; have HA := Lib.hid (HA2.out.below hb); clear HA2 hb; clear a0 a1 a2 a3 b0 b1 b2 b3; obtain ⟨a0, a1, a2, a3⟩ := cells4 HA.out.1.1; obtain ⟨b0, b1, b2, b3⟩ := cells4 HA.out.1.2.1)
  (have hn := HA.out.1.2.2; obtain ⟨c0, c1, c2, c3⟩ := cells4 hn; have f0 := free3 hn 0; have f1 := free3 hn 1; have f2 := free3 hn 2; have f3 := free3 hn 3; clear hn)
  go_wp2_with fail
  exact bodyPost_ret (ret_rbin _ _ _ _ _ _ _ rfl (put4 HA.out.1.2.2 _ _ _ _)) rfl ⟨by rw [HR.out, HF.out]; rfl, bel4 HA.out.2 (by omega) _ _ _ _⟩
set_option maxRecDepth 100000 in
set_option maxHeartbeats 2000000 in
theorem rbin_pr (op k1 n1 o1 k2 n2 o2 : Int) (s1 s2 : List UInt8) (w : World) (hs1 : s1.length ≤ 9223372036854774000) (hs2 : s2.length ≤ 9223372036854774000) (hv1 : validV k1 s1 = true) (hv2 : validV k2 s2 = true) (ho : 72 ≤ op) (ho2 : op ≤ 75) (hn1 : 0 ≤ n1) (hn2 : 0 ≤ n2) (HN2 : Hid (n2.toNat < 2 ^ 64)) : Calls Try.prog 7 #[.int .i64 op, valV k1 n1 s1 o1, valV k2 n2 s2 o2] w (CvPost w (prR op k1 n1 s1 k2 n2 s2)) := by
  have hv1' := Lib.hid hv1
  have HV1 := Lib.hid hv1
  clear hv1
  have HV2 := Lib.hid hv2
  clear hv2
  obtain ⟨⟨r, er⟩, hr⟩ : ∃ r, prR op k1 n1 s1 k2 n2 s2 = r := ⟨_, rfl⟩
  obtain ⟨va, vb, vt, vc, hf⟩ := prR_form op k1 n1 s1 k2 n2 s2
  rw [hr] at hf
  have HR := Lib.hid hr
  simp only at hf
  subst hf
  clear hr
  have HP : Hid (∀ wz : World, Calls Try.prog 23 #[.int .i64 op, valV k1 n1 s1 o1, valV k2 n2 s2 o2] wz (CvPost wz (valV va vb vt vc, er))) := Lib.hid (fun wz => by rw [← HR.out]; exact pr_any op k1 n1 o1 k2 n2 o2 s1 s2 wz hs1 hs2 hn1 hn2 HN2 hv1'.out ho ho2)
  have HA := Lib.hid (B2.start w (vObj k1 n1 s1 o1) (vObj k2 n2 s2 o2))
  (obtain ⟨a0, a1, a2, a3⟩ := cells4 HA.out.1.1; obtain ⟨b0, b1, b2, b3⟩ := cells4 HA.out.1.2.1)
  go_enter Try.func7, Try.ntmps7
  go_wp2_with fail
  ((with_reducible refine (rvalid_is k1 n1 o1 s1 true HV1 _ (by omega)).mono ?_))
  rintro e wx ⟨rfl, hb⟩
  (have HA2 := HA; clear HA; have HA := Lib.hid (HA2.out.below hb); clear HA2 hb; clear a0 a1 a2 a3 b0 b1 b2 b3; obtain ⟨a0, a1, a2, a3⟩ := cells4 HA.out.1.1; obtain ⟨b0, b1, b2, b3⟩ := cells4 HA.out.1.2.1)
  go_wp2_with fail
  ((with_reducible refine (rvalid_is k2 n2 o2 s2 true HV2 _ (by omega)).mono ?_))
  rintro e wx ⟨rfl, hb⟩
  (have HA2 := HA; clear HA; have HA := Lib.hid (HA2.out.below hb); clear HA2 hb; clear a0 a1 a2 a3 b0 b1 b2 b3; obtain ⟨a0, a1, a2, a3⟩ := cells4 HA.out.1.1; obtain ⟨b0, b1, b2, b3⟩ := cells4 HA.out.1.2.1)
  go_wp2_with fail
  ((with_reducible refine (HP.out _).mono ?_))
  rintro e wx ⟨rfl, hb⟩
  (have HA2 := HA; clear HA; have HA := Lib.hid (HA2.out.below hb); clear HA2 hb; clear a0 a1 a2 a3 b0 b1 b2 b3; obtain ⟨a0, a1, a2, a3⟩ := cells4 HA.out.1.1; obtain ⟨b0, b1, b2, b3⟩ := cells4 HA.out.1.2.1)
  (have hn := HA.out.1.2.2; obtain ⟨c0, c1, c2, c3⟩ := cells4 hn; have f0 := free3 hn 0; have f1 := free3 hn 1; have f2 := free3 hn 2; have f3 := free3 hn 3; clear hn)
  go_wp2_with fail
  exact bodyPost_ret (ret_rbin _ _ _ _ _ _ _ rfl (put4 HA.out.1.2.2 _ _ _ _)) rfl ⟨by rw [HR.out]; rfl, bel4 HA.out.2 (by omega) _ _ _ _⟩
theorem rbin_any (op k1 n1 o1 k2 n2 o2 : Int) (s1 s2 : List UInt8) (w : World) (hs1 : s1.length ≤ 9223372036854774000) (hs2 : s2.length ≤ 9223372036854774000) (hn1 : 0 ≤ n1) (hn2 : 0 ≤ n2) (hm1 : n1 ≤ 18446744073709551615) (hm2 : n2 ≤ 18446744073709551615) : Calls Try.prog 7 #[.int .i64 op, valV k1 n1 s1 o1, valV k2 n2 s2 o2] w (CvPost w (binV op k1 n1 s1 k2 n2 s2)) := by
  have HN2 : Hid (n2.toNat < 2 ^ 64) := Lib.hid (by have e : 2 ^ 64 = 18446744073709551616 := by decide
                                                    rw [e]; omega)
  unfold binV
  cases hv1 : validV k1 s1
  · rw [if_pos rfl]; exact rbin_bad1 op k1 n1 o1 k2 n2 o2 s1 s2 w hs1 hs2 hv1
  rw [if_neg (by decide)]
  cases hv2 : validV k2 s2
  · rw [if_pos rfl]; exact rbin_bad2 op k1 n1 o1 k2 n2 o2 s1 s2 w hs1 hs2 hv1 hv2
  rw [if_neg (by decide)]
  by_cases ho : op < 60 ∨ 75 < op
  · rw [if_pos ho]
    rcases ho with ho | ho
    · exact rbin_low op k1 n1 o1 k2 n2 o2 s1 s2 w hs1 hs2 hv1 hv2 ho
    · exact rbin_high op k1 n1 o1 k2 n2 o2 s1 s2 w hs1 hs2 hv1 hv2 ho
  rw [if_neg ho]
  by_cases ho2 : op ≤ 71
  · rw [if_pos ho2]
    obtain ⟨⟨x, e1⟩, h1⟩ : ∃ r, intV k1 n1 s1 = r := ⟨_, rfl⟩
    obtain ⟨⟨y, e2⟩, h2⟩ : ∃ r, intV k2 n2 s2 = r := ⟨_, rfl⟩
    rw [h1, h2]
    by_cases he1 : e1 = 0
    · subst he1
      rw [if_neg (by simp)]
      by_cases he2 : e2 = 0
      · subst he2
        rw [if_neg (by simp)]
        have b1 := intV_bound hn1 hm1 h1
        have b2 := intV_bound hn2 hm2 h2
        exact rbin_ar op k1 n1 o1 k2 n2 o2 s1 s2 w hs1 hs2 hv1 hv2 (by omega) ho2 x y (Lib.hid h1) (Lib.hid h2) b1.1 b1.2 b2.1 b2.2
      · rw [if_pos he2]
        exact rbin_ar2 op k1 n1 o1 k2 n2 o2 s1 s2 w hs1 hs2 hv1 hv2 (by omega) ho2 x y e2 (Lib.hid h1) (Lib.hid h2) he2
    · rw [if_pos he1]
      exact rbin_ar1 op k1 n1 o1 k2 n2 o2 s1 s2 w hs1 hs2 hv1 hv2 (by omega) ho2 x e1 (Lib.hid h1) he1
  rw [if_neg ho2]
  exact rbin_pr op k1 n1 o1 k2 n2 o2 s1 s2 w hs1 hs2 hv1 hv2 (by omega) (by omega) hn1 hn2 HN2
end Go.Proofs.Yteifmjhkedhomaa
