/- Binary, of the layer: the walk. -/
import Derived.Test.YteifmjhkedhomaaDoorVl
namespace Go.Proofs.YteifmjhkedhomaaDoor
open Go.RowKit
set_option linter.unusedVariables false
attribute [local go_sem] ByteArray.mk_append_mk bs_get bs_cut bs_end conv1 conv2

theorem ret_bin (tmps : Array Value) (w : World) (b : Nat) (c0 c1 c2 c3 : Value) (h2 : tmps.getD 6 undef = .pointer (some ⟨b, 0, none⟩)) (hb : w.heap[b]? = some (.cells #[c0, c1, c2, c3] 24 (0, 0))) :
    (results Tryd.f16 tmps).run Tryd.prog w = .ok (.tuple #[.agg #[c0, c1, c2, c3], tmps.getD 7 undef]) w := by
  obtain ⟨e0, e1, e2, e3⟩ := cells4 hb
  have h2' : tmps[6]?.getD undef = .pointer (some ⟨b, 0, none⟩) := by rw [← h2]; simp
  simp [results]
  go_simp
/-- Convert to an integer, a string or a buffer: the number, the bytes, the error. -/
def cvK (k n : Int) (s : List UInt8) (kind : Int) : Int × List UInt8 × Int :=
  if validV k s = false then (0, [], 1) else if kind = 1 then (if (intV k n s).2 = 0 then ((intV k n s).1, [], 0) else (0, [], (intV k n s).2))
  else if kind = 2 then (if (strOfV k n s).2 = 0 then (0, (strOfV k n s).1, 0) else (0, [], (strOfV k n s).2)) else (if (bufV k n s).2 = 0 then (0, (bufV k n s).1, 0) else (0, [], (bufV k n s).2))
theorem cvV_k (k n : Int) (s : List UInt8) (o kind : Int) (h : kind = 1 ∨ kind = 2 ∨ kind = 3) : cvV k n s o kind = if (cvK k n s kind).2.2 = 0 then (valV kind (cvK k n s kind).1 (cvK k n s kind).2.1 0, 0) else badV (cvK k n s kind).2.2 := by
  unfold cvV cvK
  by_cases hv : validV k s = false
  · rw [if_pos hv, if_pos hv]; rfl
  · rw [if_neg hv, if_neg hv]
    rcases h with rfl | rfl | rfl
    · by_cases h0 : (intV k n s).2 = 0 <;> simp [intE, h0]
    · by_cases h0 : (strOfV k n s).2 = 0 <;> simp [textE, h0]
    · by_cases h0 : (bufV k n s).2 = 0 <;> simp [textE, h0]
theorem textE_form (k : Int) (r : List UInt8 × Int) : ∃ (a b : Int) (t : List UInt8) (c : Int), (textE k r).1 = valV a b t c := by
  unfold textE
  split
  · exact ⟨_, _, _, _, rfl⟩
  · exact ⟨0, 0, [], 0, rfl⟩
theorem cat_form (k1 n1 : Int) (s1 : List UInt8) (n2 : Int) (s2 : List UInt8) : ∃ (a b : Int) (t : List UInt8) (c : Int), (catV k1 n1 s1 n2 s2).1 = valV a b t c := by
  unfold catV
  split
  · exact ⟨_, _, _, _, rfl⟩
  · exact textE_form _ _
def cmpT (op k1 n1 : Int) (s1 : List UInt8) (n2 : Int) (s2 : List UInt8) : Int := topB (cmpB op (if k1 = 1 then decide (n1 < n2) else Op.bytesLess s1 s2) (if k1 = 1 then n1 == n2 else s1 == s2))
theorem compare_is (op k1 n1 o1 n2 o2 k2 : Int) (s1 s2 : List UInt8) (T : Int) (HT : Hid (cmpT op k1 n1 s1 n2 s2 = T)) (w : World) : Calls Tryd.prog 44 #[.int .i64 op, valV k1 n1 s1 o1, valV k2 n2 s2 o2] w fun e w' => e = .returned (valV 1 T [] 0) ∧ Below w.heap.size w w' := by
  rw [← HT.out]; exact compare_any op k1 n1 o1 n2 o2 k2 s1 s2 w
/-- The comparisons and the concatenation. -/
def pairV (op k1 n1 : Int) (s1 : List UInt8) (n2 : Int) (s2 : List UInt8) : Value × Int :=
  if op = 75 then catV k1 n1 s1 n2 s2 else (valV 1 (cmpT op k1 n1 s1 n2 s2) [] 0, 0)
/-- What Binary returns. -/
def binV (op k1 n1 : Int) (s1 : List UInt8) (k2 n2 : Int) (s2 : List UInt8) : Value × Int :=
  if validV k1 s1 = false then badV 1 else if validV k2 s2 = false then badV 1 else if op < 60 ∨ 75 < op then badV 1
  else if op ≤ 71 then (if (intV k1 n1 s1).2 ≠ 0 then badV (intV k1 n1 s1).2 else if (intV k2 n2 s2).2 ≠ 0 then badV (intV k2 n2 s2).2 else (valE (arV op (intV k1 n1 s1).1 (intV k2 n2 s2).1), (arV op (intV k1 n1 s1).1 (intV k2 n2 s2).1).2))
  else if ¬ (k1 = 1 ∨ k1 = 2 ∨ k1 = 3) then badV 10
  else if (cvK k2 n2 s2 k1).2.2 ≠ 0 then badV (cvK k2 n2 s2 k1).2.2 else pairV op k1 n1 s1 (cvK k2 n2 s2 k1).1 (cvK k2 n2 s2 k1).2.1
set_option maxRecDepth 100000 in
set_option maxHeartbeats 2000000 in
theorem bin_bad1 (op k1 n1 o1 k2 n2 o2 : Int) (s1 s2 : List UInt8) (w : World) (hs1 : s1.length ≤ 9223372036854774000) (hs2 : s2.length ≤ 9223372036854774000) (hv1 : validV k1 s1 = false) : Calls Tryd.prog 16 #[.int .i64 op, valV k1 n1 s1 o1, valV k2 n2 s2 o2] w (CvPost w (badV 1)) := by
  have HV1 := Lib.hid hv1
  clear hv1
  have HA := Lib.hid (B2.start w (vObj k1 n1 s1 o1) (vObj k2 n2 s2 o2))
  (obtain ⟨a0, a1, a2, a3⟩ := cells4 HA.out.1.1; obtain ⟨b0, b1, b2, b3⟩ := cells4 HA.out.1.2.1)
  go_enter Tryd.func16, Tryd.ntmps16
  go_wp2_with fail
  ((with_reducible refine (valid_is k1 n1 o1 s1 false HV1 _ (by omega)).mono ?_))
  rintro e wx ⟨rfl, hb⟩
  (have HA2 := HA; clear HA; have HA := Lib.hid (HA2.out.below hb); clear HA2 hb; clear a0 a1 a2 a3 b0 b1 b2 b3; obtain ⟨a0, a1, a2, a3⟩ := cells4 HA.out.1.1; obtain ⟨b0, b1, b2, b3⟩ := cells4 HA.out.1.2.1)
  (have hn := HA.out.1.2.2; obtain ⟨c0, c1, c2, c3⟩ := cells4 hn; have f0 := free3 hn 0; have f1 := free3 hn 1; have f2 := free3 hn 2; have f3 := free3 hn 3; clear hn)
  go_wp2_with fail
  exact bodyPost_ret (ret_bin _ _ _ _ _ _ _ rfl (put4 HA.out.1.2.2 _ _ _ _)) rfl ⟨by rfl, bel4 HA.out.2 (by omega) _ _ _ _⟩
set_option maxRecDepth 100000 in
set_option maxHeartbeats 2000000 in
theorem bin_bad2 (op k1 n1 o1 k2 n2 o2 : Int) (s1 s2 : List UInt8) (w : World) (hs1 : s1.length ≤ 9223372036854774000) (hs2 : s2.length ≤ 9223372036854774000) (hv1 : validV k1 s1 = true) (hv2 : validV k2 s2 = false) : Calls Tryd.prog 16 #[.int .i64 op, valV k1 n1 s1 o1, valV k2 n2 s2 o2] w (CvPost w (badV 1)) := by
  have HV1 := Lib.hid hv1
  clear hv1
  have HV2 := Lib.hid hv2
  clear hv2
  have HA := Lib.hid (B2.start w (vObj k1 n1 s1 o1) (vObj k2 n2 s2 o2))
  (obtain ⟨a0, a1, a2, a3⟩ := cells4 HA.out.1.1; obtain ⟨b0, b1, b2, b3⟩ := cells4 HA.out.1.2.1)
  go_enter Tryd.func16, Tryd.ntmps16
  go_wp2_with fail
  ((with_reducible refine (valid_is k1 n1 o1 s1 true HV1 _ (by omega)).mono ?_))
  rintro e wx ⟨rfl, hb⟩
  (have HA2 := HA; clear HA; have HA := Lib.hid (HA2.out.below hb); clear HA2 hb; clear a0 a1 a2 a3 b0 b1 b2 b3; obtain ⟨a0, a1, a2, a3⟩ := cells4 HA.out.1.1; obtain ⟨b0, b1, b2, b3⟩ := cells4 HA.out.1.2.1)
  go_wp2_with fail
  ((with_reducible refine (valid_is k2 n2 o2 s2 false HV2 _ (by omega)).mono ?_))
  rintro e wx ⟨rfl, hb⟩
  (have HA2 := HA; clear HA; have HA := Lib.hid (HA2.out.below hb); clear HA2 hb; clear a0 a1 a2 a3 b0 b1 b2 b3; obtain ⟨a0, a1, a2, a3⟩ := cells4 HA.out.1.1; obtain ⟨b0, b1, b2, b3⟩ := cells4 HA.out.1.2.1)
  (have hn := HA.out.1.2.2; obtain ⟨c0, c1, c2, c3⟩ := cells4 hn; have f0 := free3 hn 0; have f1 := free3 hn 1; have f2 := free3 hn 2; have f3 := free3 hn 3; clear hn)
  go_wp2_with fail
  exact bodyPost_ret (ret_bin _ _ _ _ _ _ _ rfl (put4 HA.out.1.2.2 _ _ _ _)) rfl ⟨by rfl, bel4 HA.out.2 (by omega) _ _ _ _⟩
set_option maxRecDepth 100000 in
set_option maxHeartbeats 2000000 in
theorem bin_low (op k1 n1 o1 k2 n2 o2 : Int) (s1 s2 : List UInt8) (w : World) (hs1 : s1.length ≤ 9223372036854774000) (hs2 : s2.length ≤ 9223372036854774000) (hv1 : validV k1 s1 = true) (hv2 : validV k2 s2 = true) (ho : op < 60) : Calls Tryd.prog 16 #[.int .i64 op, valV k1 n1 s1 o1, valV k2 n2 s2 o2] w (CvPost w (badV 1)) := by
  have HV1 := Lib.hid hv1
  clear hv1
  have HV2 := Lib.hid hv2
  clear hv2
  have HA := Lib.hid (B2.start w (vObj k1 n1 s1 o1) (vObj k2 n2 s2 o2))
  (obtain ⟨a0, a1, a2, a3⟩ := cells4 HA.out.1.1; obtain ⟨b0, b1, b2, b3⟩ := cells4 HA.out.1.2.1)
  go_enter Tryd.func16, Tryd.ntmps16
  go_wp2_with fail
  ((with_reducible refine (valid_is k1 n1 o1 s1 true HV1 _ (by omega)).mono ?_))
  rintro e wx ⟨rfl, hb⟩
  (have HA2 := HA; clear HA; have HA := Lib.hid (HA2.out.below hb); clear HA2 hb; clear a0 a1 a2 a3 b0 b1 b2 b3; obtain ⟨a0, a1, a2, a3⟩ := cells4 HA.out.1.1; obtain ⟨b0, b1, b2, b3⟩ := cells4 HA.out.1.2.1)
  go_wp2_with fail
  ((with_reducible refine (valid_is k2 n2 o2 s2 true HV2 _ (by omega)).mono ?_))
  rintro e wx ⟨rfl, hb⟩
  (have HA2 := HA; clear HA; have HA := Lib.hid (HA2.out.below hb); clear HA2 hb; clear a0 a1 a2 a3 b0 b1 b2 b3; obtain ⟨a0, a1, a2, a3⟩ := cells4 HA.out.1.1; obtain ⟨b0, b1, b2, b3⟩ := cells4 HA.out.1.2.1)
  (have hn := HA.out.1.2.2; obtain ⟨c0, c1, c2, c3⟩ := cells4 hn; have f0 := free3 hn 0; have f1 := free3 hn 1; have f2 := free3 hn 2; have f3 := free3 hn 3; clear hn)
  go_wp2_with fail
  exact bodyPost_ret (ret_bin _ _ _ _ _ _ _ rfl (put4 HA.out.1.2.2 _ _ _ _)) rfl ⟨by rfl, bel4 HA.out.2 (by omega) _ _ _ _⟩
set_option maxRecDepth 100000 in
set_option maxHeartbeats 2000000 in
theorem bin_high (op k1 n1 o1 k2 n2 o2 : Int) (s1 s2 : List UInt8) (w : World) (hs1 : s1.length ≤ 9223372036854774000) (hs2 : s2.length ≤ 9223372036854774000) (hv1 : validV k1 s1 = true) (hv2 : validV k2 s2 = true) (ho : 75 < op) : Calls Tryd.prog 16 #[.int .i64 op, valV k1 n1 s1 o1, valV k2 n2 s2 o2] w (CvPost w (badV 1)) := by
  have HV1 := Lib.hid hv1
  clear hv1
  have HV2 := Lib.hid hv2
  clear hv2
  have HA := Lib.hid (B2.start w (vObj k1 n1 s1 o1) (vObj k2 n2 s2 o2))
  (obtain ⟨a0, a1, a2, a3⟩ := cells4 HA.out.1.1; obtain ⟨b0, b1, b2, b3⟩ := cells4 HA.out.1.2.1)
  go_enter Tryd.func16, Tryd.ntmps16
  go_wp2_with fail
  ((with_reducible refine (valid_is k1 n1 o1 s1 true HV1 _ (by omega)).mono ?_))
  rintro e wx ⟨rfl, hb⟩
  (have HA2 := HA; clear HA; have HA := Lib.hid (HA2.out.below hb); clear HA2 hb; clear a0 a1 a2 a3 b0 b1 b2 b3; obtain ⟨a0, a1, a2, a3⟩ := cells4 HA.out.1.1; obtain ⟨b0, b1, b2, b3⟩ := cells4 HA.out.1.2.1)
  go_wp2_with fail
  ((with_reducible refine (valid_is k2 n2 o2 s2 true HV2 _ (by omega)).mono ?_))
  rintro e wx ⟨rfl, hb⟩
  (have HA2 := HA; clear HA; have HA := Lib.hid (HA2.out.below hb); clear HA2 hb; clear a0 a1 a2 a3 b0 b1 b2 b3; obtain ⟨a0, a1, a2, a3⟩ := cells4 HA.out.1.1; obtain ⟨b0, b1, b2, b3⟩ := cells4 HA.out.1.2.1)
  (have hn := HA.out.1.2.2; obtain ⟨c0, c1, c2, c3⟩ := cells4 hn; have f0 := free3 hn 0; have f1 := free3 hn 1; have f2 := free3 hn 2; have f3 := free3 hn 3; clear hn)
  go_wp2_with fail
  exact bodyPost_ret (ret_bin _ _ _ _ _ _ _ rfl (put4 HA.out.1.2.2 _ _ _ _)) rfl ⟨by rfl, bel4 HA.out.2 (by omega) _ _ _ _⟩
set_option maxRecDepth 100000 in
set_option maxHeartbeats 2000000 in
theorem bin_ar1 (op k1 n1 o1 k2 n2 o2 : Int) (s1 s2 : List UInt8) (w : World) (hs1 : s1.length ≤ 9223372036854774000) (hs2 : s2.length ≤ 9223372036854774000) (hv1 : validV k1 s1 = true) (hv2 : validV k2 s2 = true) (ho : 60 ≤ op) (ho2 : op ≤ 71) (x e1 : Int) (HI1 : Hid (intV k1 n1 s1 = (x, e1))) (h1 : e1 ≠ 0) : Calls Tryd.prog 16 #[.int .i64 op, valV k1 n1 s1 o1, valV k2 n2 s2 o2] w (CvPost w (badV e1)) := by
  have HV1 := Lib.hid hv1
  clear hv1
  have HV2 := Lib.hid hv2
  clear hv2
  have he' : (e1 != 0) = true := by rw [bne_iff_ne]; exact h1
  clear h1
  have HA := Lib.hid (B2.start w (vObj k1 n1 s1 o1) (vObj k2 n2 s2 o2))
  (obtain ⟨a0, a1, a2, a3⟩ := cells4 HA.out.1.1; obtain ⟨b0, b1, b2, b3⟩ := cells4 HA.out.1.2.1)
  go_enter Tryd.func16, Tryd.ntmps16
  go_wp2_with fail
  ((with_reducible refine (valid_is k1 n1 o1 s1 true HV1 _ (by omega)).mono ?_))
  rintro e wx ⟨rfl, hb⟩
  (have HA2 := HA; clear HA; have HA := Lib.hid (HA2.out.below hb); clear HA2 hb; clear a0 a1 a2 a3 b0 b1 b2 b3; obtain ⟨a0, a1, a2, a3⟩ := cells4 HA.out.1.1; obtain ⟨b0, b1, b2, b3⟩ := cells4 HA.out.1.2.1)
  go_wp2_with fail
  ((with_reducible refine (valid_is k2 n2 o2 s2 true HV2 _ (by omega)).mono ?_))
  rintro e wx ⟨rfl, hb⟩
  (have HA2 := HA; clear HA; have HA := Lib.hid (HA2.out.below hb); clear HA2 hb; clear a0 a1 a2 a3 b0 b1 b2 b3; obtain ⟨a0, a1, a2, a3⟩ := cells4 HA.out.1.1; obtain ⟨b0, b1, b2, b3⟩ := cells4 HA.out.1.2.1)
  go_wp2_with fail
  ((with_reducible refine (integer_any k1 n1 o1 s1 _ (by omega)).mono ?_))
  rintro e wx ⟨rfl, hb⟩
  rw [HI1.out]
  (have HA2 := HA; clear HA; have HA := Lib.hid (HA2.out.below hb); clear HA2 hb; clear a0 a1 a2 a3 b0 b1 b2 b3; obtain ⟨a0, a1, a2, a3⟩ := cells4 HA.out.1.1; obtain ⟨b0, b1, b2, b3⟩ := cells4 HA.out.1.2.1)
  (have hn := HA.out.1.2.2; obtain ⟨c0, c1, c2, c3⟩ := cells4 hn; have f0 := free3 hn 0; have f1 := free3 hn 1; have f2 := free3 hn 2; have f3 := free3 hn 3; clear hn)
  go_wp2_with fail
  exact bodyPost_ret (ret_bin _ _ _ _ _ _ _ rfl (put4 HA.out.1.2.2 _ _ _ _)) rfl ⟨by rfl, bel4 HA.out.2 (by omega) _ _ _ _⟩
set_option maxRecDepth 100000 in
set_option maxHeartbeats 2000000 in
theorem bin_ar2 (op k1 n1 o1 k2 n2 o2 : Int) (s1 s2 : List UInt8) (w : World) (hs1 : s1.length ≤ 9223372036854774000) (hs2 : s2.length ≤ 9223372036854774000) (hv1 : validV k1 s1 = true) (hv2 : validV k2 s2 = true) (ho : 60 ≤ op) (ho2 : op ≤ 71) (x y e2 : Int) (HI1 : Hid (intV k1 n1 s1 = (x, 0))) (HI2 : Hid (intV k2 n2 s2 = (y, e2))) (h2 : e2 ≠ 0) : Calls Tryd.prog 16 #[.int .i64 op, valV k1 n1 s1 o1, valV k2 n2 s2 o2] w (CvPost w (badV e2)) := by
  have HV1 := Lib.hid hv1
  clear hv1
  have HV2 := Lib.hid hv2
  clear hv2
  have he' : (e2 != 0) = true := by rw [bne_iff_ne]; exact h2
  clear h2
  have HA := Lib.hid (B2.start w (vObj k1 n1 s1 o1) (vObj k2 n2 s2 o2))
  (obtain ⟨a0, a1, a2, a3⟩ := cells4 HA.out.1.1; obtain ⟨b0, b1, b2, b3⟩ := cells4 HA.out.1.2.1)
  go_enter Tryd.func16, Tryd.ntmps16
  go_wp2_with fail
  ((with_reducible refine (valid_is k1 n1 o1 s1 true HV1 _ (by omega)).mono ?_))
  rintro e wx ⟨rfl, hb⟩
  (have HA2 := HA; clear HA; have HA := Lib.hid (HA2.out.below hb); clear HA2 hb; clear a0 a1 a2 a3 b0 b1 b2 b3; obtain ⟨a0, a1, a2, a3⟩ := cells4 HA.out.1.1; obtain ⟨b0, b1, b2, b3⟩ := cells4 HA.out.1.2.1)
  go_wp2_with fail
  ((with_reducible refine (valid_is k2 n2 o2 s2 true HV2 _ (by omega)).mono ?_))
  rintro e wx ⟨rfl, hb⟩
  (have HA2 := HA; clear HA; have HA := Lib.hid (HA2.out.below hb); clear HA2 hb; clear a0 a1 a2 a3 b0 b1 b2 b3; obtain ⟨a0, a1, a2, a3⟩ := cells4 HA.out.1.1; obtain ⟨b0, b1, b2, b3⟩ := cells4 HA.out.1.2.1)
  go_wp2_with fail
  ((with_reducible refine (integer_any k1 n1 o1 s1 _ (by omega)).mono ?_))
  rintro e wx ⟨rfl, hb⟩
  rw [HI1.out]
  (have HA2 := HA; clear HA; have HA := Lib.hid (HA2.out.below hb); clear HA2 hb; clear a0 a1 a2 a3 b0 b1 b2 b3; obtain ⟨a0, a1, a2, a3⟩ := cells4 HA.out.1.1; obtain ⟨b0, b1, b2, b3⟩ := cells4 HA.out.1.2.1)
  go_wp2_with fail
  ((with_reducible refine (integer_any k2 n2 o2 s2 _ (by omega)).mono ?_))
  rintro e wx ⟨rfl, hb⟩
  rw [HI2.out]
  (have HA2 := HA; clear HA; have HA := Lib.hid (HA2.out.below hb); clear HA2 hb; clear a0 a1 a2 a3 b0 b1 b2 b3; obtain ⟨a0, a1, a2, a3⟩ := cells4 HA.out.1.1; obtain ⟨b0, b1, b2, b3⟩ := cells4 HA.out.1.2.1)
  (have hn := HA.out.1.2.2; obtain ⟨c0, c1, c2, c3⟩ := cells4 hn; have f0 := free3 hn 0; have f1 := free3 hn 1; have f2 := free3 hn 2; have f3 := free3 hn 3; clear hn)
  go_wp2_with fail
  exact bodyPost_ret (ret_bin _ _ _ _ _ _ _ rfl (put4 HA.out.1.2.2 _ _ _ _)) rfl ⟨by rfl, bel4 HA.out.2 (by omega) _ _ _ _⟩
theorem valE_form (r : Int × Int) : ∃ (a b : Int) (t : List UInt8) (c : Int), valE r = valV a b t c := by
  unfold valE
  split
  · exact ⟨_, _, _, _, rfl⟩
  · exact ⟨_, _, _, _, rfl⟩
set_option maxRecDepth 100000 in
set_option maxHeartbeats 2000000 in
theorem bin_ar (op k1 n1 o1 k2 n2 o2 : Int) (s1 s2 : List UInt8) (w : World) (hs1 : s1.length ≤ 9223372036854774000) (hs2 : s2.length ≤ 9223372036854774000) (hv1 : validV k1 s1 = true) (hv2 : validV k2 s2 = true) (ho : 60 ≤ op) (ho2 : op ≤ 71) (x y : Int) (HI1 : Hid (intV k1 n1 s1 = (x, 0))) (HI2 : Hid (intV k2 n2 s2 = (y, 0))) (hx : 0 ≤ x) (hx2 : x ≤ 18446744073709551615) (hy : 0 ≤ y) (hy2 : y ≤ 18446744073709551615) : Calls Tryd.prog 16 #[.int .i64 op, valV k1 n1 s1 o1, valV k2 n2 s2 o2] w (CvPost w (valE (arV op x y), (arV op x y).2)) := by
  have HV1 := Lib.hid hv1
  clear hv1
  have HV2 := Lib.hid hv2
  clear hv2
  obtain ⟨r, hr⟩ : ∃ r, arV op x y = r := ⟨_, rfl⟩
  obtain ⟨va, vb, vt, vc, hf⟩ := valE_form r
  have HR := Lib.hid hr
  have HF := Lib.hid hf
  clear hr hf
  have HA := Lib.hid (B2.start w (vObj k1 n1 s1 o1) (vObj k2 n2 s2 o2))
  (obtain ⟨a0, a1, a2, a3⟩ := cells4 HA.out.1.1; obtain ⟨b0, b1, b2, b3⟩ := cells4 HA.out.1.2.1)
  go_enter Tryd.func16, Tryd.ntmps16
  go_wp2_with fail
  ((with_reducible refine (valid_is k1 n1 o1 s1 true HV1 _ (by omega)).mono ?_))
  rintro e wx ⟨rfl, hb⟩
  (have HA2 := HA; clear HA; have HA := Lib.hid (HA2.out.below hb); clear HA2 hb; clear a0 a1 a2 a3 b0 b1 b2 b3; obtain ⟨a0, a1, a2, a3⟩ := cells4 HA.out.1.1; obtain ⟨b0, b1, b2, b3⟩ := cells4 HA.out.1.2.1)
  go_wp2_with fail
  ((with_reducible refine (valid_is k2 n2 o2 s2 true HV2 _ (by omega)).mono ?_))
  rintro e wx ⟨rfl, hb⟩
  (have HA2 := HA; clear HA; have HA := Lib.hid (HA2.out.below hb); clear HA2 hb; clear a0 a1 a2 a3 b0 b1 b2 b3; obtain ⟨a0, a1, a2, a3⟩ := cells4 HA.out.1.1; obtain ⟨b0, b1, b2, b3⟩ := cells4 HA.out.1.2.1)
  go_wp2_with fail
  ((with_reducible refine (integer_any k1 n1 o1 s1 _ (by omega)).mono ?_))
  rintro e wx ⟨rfl, hb⟩
  rw [HI1.out]
  (have HA2 := HA; clear HA; have HA := Lib.hid (HA2.out.below hb); clear HA2 hb; clear a0 a1 a2 a3 b0 b1 b2 b3; obtain ⟨a0, a1, a2, a3⟩ := cells4 HA.out.1.1; obtain ⟨b0, b1, b2, b3⟩ := cells4 HA.out.1.2.1)
  go_wp2_with fail
  ((with_reducible refine (integer_any k2 n2 o2 s2 _ (by omega)).mono ?_))
  rintro e wx ⟨rfl, hb⟩
  rw [HI2.out]
  (have HA2 := HA; clear HA; have HA := Lib.hid (HA2.out.below hb); clear HA2 hb; clear a0 a1 a2 a3 b0 b1 b2 b3; obtain ⟨a0, a1, a2, a3⟩ := cells4 HA.out.1.1; obtain ⟨b0, b1, b2, b3⟩ := cells4 HA.out.1.2.1)
  go_wp2_with fail
  ((with_reducible refine (ar_any op x y _ ho ho2 hx hx2 hy hy2).mono ?_))
  rintro e wx ⟨rfl, hb⟩
  rw [HR.out, HF.out]
  (have HA2 := HA; clear HA; have HA := Lib.hid (HA2.out.below hb); clear HA2 hb; clear a0 a1 a2 a3 b0 b1 b2 b3; obtain ⟨a0, a1, a2, a3⟩ := cells4 HA.out.1.1; obtain ⟨b0, b1, b2, b3⟩ := cells4 HA.out.1.2.1)
  (have hn := HA.out.1.2.2; obtain ⟨c0, c1, c2, c3⟩ := cells4 hn; have f0 := free3 hn 0; have f1 := free3 hn 1; have f2 := free3 hn 2; have f3 := free3 hn 3; clear hn)
  go_wp2_with fail
  exact bodyPost_ret (ret_bin _ _ _ _ _ _ _ rfl (put4 HA.out.1.2.2 _ _ _ _)) rfl ⟨by rw [HR.out, HF.out]; rfl, bel4 HA.out.2 (by omega) _ _ _ _⟩
set_option maxRecDepth 100000 in
set_option maxHeartbeats 2000000 in
theorem bin_type (op k1 n1 o1 k2 n2 o2 : Int) (s1 s2 : List UInt8) (w : World) (hs1 : s1.length ≤ 9223372036854774000) (hs2 : s2.length ≤ 9223372036854774000) (hv1 : validV k1 s1 = true) (hv2 : validV k2 s2 = true) (ho : 72 ≤ op) (ho2 : op ≤ 75) (hk : k1 ≠ 1 ∧ k1 ≠ 2 ∧ k1 ≠ 3) : Calls Tryd.prog 16 #[.int .i64 op, valV k1 n1 s1 o1, valV k2 n2 s2 o2] w (CvPost w (badV 10)) := by
  have HV1 := Lib.hid hv1
  clear hv1
  have HV2 := Lib.hid hv2
  clear hv2
  have m1 : (k1 != 1) = true := by rw [bne_iff_ne]; exact hk.1
  have m2 : (k1 != 2) = true := by rw [bne_iff_ne]; exact hk.2.1
  have m3 : (k1 != 3) = true := by rw [bne_iff_ne]; exact hk.2.2
  clear hk
  have HA := Lib.hid (B2.start w (vObj k1 n1 s1 o1) (vObj k2 n2 s2 o2))
  (obtain ⟨a0, a1, a2, a3⟩ := cells4 HA.out.1.1; obtain ⟨b0, b1, b2, b3⟩ := cells4 HA.out.1.2.1)
  go_enter Tryd.func16, Tryd.ntmps16
  go_wp2_with fail
  ((with_reducible refine (valid_is k1 n1 o1 s1 true HV1 _ (by omega)).mono ?_))
  rintro e wx ⟨rfl, hb⟩
  (have HA2 := HA; clear HA; have HA := Lib.hid (HA2.out.below hb); clear HA2 hb; clear a0 a1 a2 a3 b0 b1 b2 b3; obtain ⟨a0, a1, a2, a3⟩ := cells4 HA.out.1.1; obtain ⟨b0, b1, b2, b3⟩ := cells4 HA.out.1.2.1)
  go_wp2_with fail
  ((with_reducible refine (valid_is k2 n2 o2 s2 true HV2 _ (by omega)).mono ?_))
  rintro e wx ⟨rfl, hb⟩
  (have HA2 := HA; clear HA; have HA := Lib.hid (HA2.out.below hb); clear HA2 hb; clear a0 a1 a2 a3 b0 b1 b2 b3; obtain ⟨a0, a1, a2, a3⟩ := cells4 HA.out.1.1; obtain ⟨b0, b1, b2, b3⟩ := cells4 HA.out.1.2.1)
  (have hn := HA.out.1.2.2; obtain ⟨c0, c1, c2, c3⟩ := cells4 hn; have f0 := free3 hn 0; have f1 := free3 hn 1; have f2 := free3 hn 2; have f3 := free3 hn 3; clear hn)
  go_wp2_with fail
  exact bodyPost_ret (ret_bin _ _ _ _ _ _ _ rfl (put4 HA.out.1.2.2 _ _ _ _)) rfl ⟨by rfl, bel4 HA.out.2 (by omega) _ _ _ _⟩
set_option maxRecDepth 100000 in
set_option maxHeartbeats 2000000 in
theorem bin_cverr_1 (op n1 o1 k2 n2 o2 : Int) (s1 s2 : List UInt8) (w : World) (hs1 : s1.length ≤ 9223372036854774000) (hs2 : s2.length ≤ 9223372036854774000) (hv1 : validV 1 s1 = true) (hv2 : validV k2 s2 = true) (ho : 72 ≤ op) (ho2 : op ≤ 75) (er : Int) (HC : Hid (cvV k2 n2 s2 o2 1 = badV er)) (h2 : er ≠ 0) (hn2 : 0 ≤ n2) : Calls Tryd.prog 16 #[.int .i64 op, valV 1 n1 s1 o1, valV k2 n2 s2 o2] w (CvPost w (badV er)) := by
  have HV1 := Lib.hid hv1
  clear hv1
  have HV2 := Lib.hid hv2
  clear hv2
  have he' : (er != 0) = true := by rw [bne_iff_ne]; exact h2
  clear h2
  have HA := Lib.hid (B2.start w (vObj 1 n1 s1 o1) (vObj k2 n2 s2 o2))
  (obtain ⟨a0, a1, a2, a3⟩ := cells4 HA.out.1.1; obtain ⟨b0, b1, b2, b3⟩ := cells4 HA.out.1.2.1)
  go_enter Tryd.func16, Tryd.ntmps16
  go_wp2_with fail
  ((with_reducible refine (valid_is 1 n1 o1 s1 true HV1 _ (by omega)).mono ?_))
  rintro e wx ⟨rfl, hb⟩
  (have HA2 := HA; clear HA; have HA := Lib.hid (HA2.out.below hb); clear HA2 hb; clear a0 a1 a2 a3 b0 b1 b2 b3; obtain ⟨a0, a1, a2, a3⟩ := cells4 HA.out.1.1; obtain ⟨b0, b1, b2, b3⟩ := cells4 HA.out.1.2.1)
  go_wp2_with fail
  ((with_reducible refine (valid_is k2 n2 o2 s2 true HV2 _ (by omega)).mono ?_))
  rintro e wx ⟨rfl, hb⟩
  (have HA2 := HA; clear HA; have HA := Lib.hid (HA2.out.below hb); clear HA2 hb; clear a0 a1 a2 a3 b0 b1 b2 b3; obtain ⟨a0, a1, a2, a3⟩ := cells4 HA.out.1.1; obtain ⟨b0, b1, b2, b3⟩ := cells4 HA.out.1.2.1)
  go_wp2_with fail
  ((with_reducible refine (convert_any k2 n2 o2 _ s2 _ (by omega) hn2).mono ?_))
  rintro e wx ⟨rfl, hb⟩
  rw [HC.out]
  unfold badV
  (have HA2 := HA; clear HA; have HA := Lib.hid (HA2.out.below hb); clear HA2 hb; clear a0 a1 a2 a3 b0 b1 b2 b3; obtain ⟨a0, a1, a2, a3⟩ := cells4 HA.out.1.1; obtain ⟨b0, b1, b2, b3⟩ := cells4 HA.out.1.2.1)
  (have r0 := fun o => (cells4 (HA.out.alloc o).1.2.2).1; have r1 := fun o => (cells4 (HA.out.alloc o).1.2.2).2.1; have r2 := fun o => (cells4 (HA.out.alloc o).1.2.2).2.2.1; have r3 := fun o => (cells4 (HA.out.alloc o).1.2.2).2.2.2; have g0 := fun o => free3 (HA.out.alloc o).1.2.2 0; have g1 := fun o => free3 (HA.out.alloc o).1.2.2 1; have g2 := fun o => free3 (HA.out.alloc o).1.2.2 2; have g3 := fun o => free3 (HA.out.alloc o).1.2.2 3)
  go_wp2_with fail
  exact bodyPost_ret (ret_bin _ _ _ _ _ _ _ rfl (put4 (HA.out.alloc _).1.2.2 _ _ _ _)) rfl ⟨by rfl, bel4 (HA.out.alloc _).2 (by omega) _ _ _ _⟩
set_option maxRecDepth 100000 in
set_option maxHeartbeats 2000000 in
theorem bin_cverr_2 (op n1 o1 k2 n2 o2 : Int) (s1 s2 : List UInt8) (w : World) (hs1 : s1.length ≤ 9223372036854774000) (hs2 : s2.length ≤ 9223372036854774000) (hv1 : validV 2 s1 = true) (hv2 : validV k2 s2 = true) (ho : 72 ≤ op) (ho2 : op ≤ 75) (er : Int) (HC : Hid (cvV k2 n2 s2 o2 2 = badV er)) (h2 : er ≠ 0) (hn2 : 0 ≤ n2) : Calls Tryd.prog 16 #[.int .i64 op, valV 2 n1 s1 o1, valV k2 n2 s2 o2] w (CvPost w (badV er)) := by
  have HV1 := Lib.hid hv1
  clear hv1
  have HV2 := Lib.hid hv2
  clear hv2
  have he' : (er != 0) = true := by rw [bne_iff_ne]; exact h2
  clear h2
  have HA := Lib.hid (B2.start w (vObj 2 n1 s1 o1) (vObj k2 n2 s2 o2))
  (obtain ⟨a0, a1, a2, a3⟩ := cells4 HA.out.1.1; obtain ⟨b0, b1, b2, b3⟩ := cells4 HA.out.1.2.1)
  go_enter Tryd.func16, Tryd.ntmps16
  go_wp2_with fail
  ((with_reducible refine (valid_is 2 n1 o1 s1 true HV1 _ (by omega)).mono ?_))
  rintro e wx ⟨rfl, hb⟩
  (have HA2 := HA; clear HA; have HA := Lib.hid (HA2.out.below hb); clear HA2 hb; clear a0 a1 a2 a3 b0 b1 b2 b3; obtain ⟨a0, a1, a2, a3⟩ := cells4 HA.out.1.1; obtain ⟨b0, b1, b2, b3⟩ := cells4 HA.out.1.2.1)
  go_wp2_with fail
  ((with_reducible refine (valid_is k2 n2 o2 s2 true HV2 _ (by omega)).mono ?_))
  rintro e wx ⟨rfl, hb⟩
  (have HA2 := HA; clear HA; have HA := Lib.hid (HA2.out.below hb); clear HA2 hb; clear a0 a1 a2 a3 b0 b1 b2 b3; obtain ⟨a0, a1, a2, a3⟩ := cells4 HA.out.1.1; obtain ⟨b0, b1, b2, b3⟩ := cells4 HA.out.1.2.1)
  go_wp2_with fail
  ((with_reducible refine (convert_any k2 n2 o2 _ s2 _ (by omega) hn2).mono ?_))
  rintro e wx ⟨rfl, hb⟩
  rw [HC.out]
  unfold badV
  (have HA2 := HA; clear HA; have HA := Lib.hid (HA2.out.below hb); clear HA2 hb; clear a0 a1 a2 a3 b0 b1 b2 b3; obtain ⟨a0, a1, a2, a3⟩ := cells4 HA.out.1.1; obtain ⟨b0, b1, b2, b3⟩ := cells4 HA.out.1.2.1)
  (have r0 := fun o => (cells4 (HA.out.alloc o).1.2.2).1; have r1 := fun o => (cells4 (HA.out.alloc o).1.2.2).2.1; have r2 := fun o => (cells4 (HA.out.alloc o).1.2.2).2.2.1; have r3 := fun o => (cells4 (HA.out.alloc o).1.2.2).2.2.2; have g0 := fun o => free3 (HA.out.alloc o).1.2.2 0; have g1 := fun o => free3 (HA.out.alloc o).1.2.2 1; have g2 := fun o => free3 (HA.out.alloc o).1.2.2 2; have g3 := fun o => free3 (HA.out.alloc o).1.2.2 3)
  go_wp2_with fail
  exact bodyPost_ret (ret_bin _ _ _ _ _ _ _ rfl (put4 (HA.out.alloc _).1.2.2 _ _ _ _)) rfl ⟨by rfl, bel4 (HA.out.alloc _).2 (by omega) _ _ _ _⟩
set_option maxRecDepth 100000 in
set_option maxHeartbeats 2000000 in
theorem bin_cverr_3 (op n1 o1 k2 n2 o2 : Int) (s1 s2 : List UInt8) (w : World) (hs1 : s1.length ≤ 9223372036854774000) (hs2 : s2.length ≤ 9223372036854774000) (hv1 : validV 3 s1 = true) (hv2 : validV k2 s2 = true) (ho : 72 ≤ op) (ho2 : op ≤ 75) (er : Int) (HC : Hid (cvV k2 n2 s2 o2 3 = badV er)) (h2 : er ≠ 0) (hn2 : 0 ≤ n2) : Calls Tryd.prog 16 #[.int .i64 op, valV 3 n1 s1 o1, valV k2 n2 s2 o2] w (CvPost w (badV er)) := by
  have HV1 := Lib.hid hv1
  clear hv1
  have HV2 := Lib.hid hv2
  clear hv2
  have he' : (er != 0) = true := by rw [bne_iff_ne]; exact h2
  clear h2
  have HA := Lib.hid (B2.start w (vObj 3 n1 s1 o1) (vObj k2 n2 s2 o2))
  (obtain ⟨a0, a1, a2, a3⟩ := cells4 HA.out.1.1; obtain ⟨b0, b1, b2, b3⟩ := cells4 HA.out.1.2.1)
  go_enter Tryd.func16, Tryd.ntmps16
  go_wp2_with fail
  ((with_reducible refine (valid_is 3 n1 o1 s1 true HV1 _ (by omega)).mono ?_))
  rintro e wx ⟨rfl, hb⟩
  (have HA2 := HA; clear HA; have HA := Lib.hid (HA2.out.below hb); clear HA2 hb; clear a0 a1 a2 a3 b0 b1 b2 b3; obtain ⟨a0, a1, a2, a3⟩ := cells4 HA.out.1.1; obtain ⟨b0, b1, b2, b3⟩ := cells4 HA.out.1.2.1)
  go_wp2_with fail
  ((with_reducible refine (valid_is k2 n2 o2 s2 true HV2 _ (by omega)).mono ?_))
  rintro e wx ⟨rfl, hb⟩
  (have HA2 := HA; clear HA; have HA := Lib.hid (HA2.out.below hb); clear HA2 hb; clear a0 a1 a2 a3 b0 b1 b2 b3; obtain ⟨a0, a1, a2, a3⟩ := cells4 HA.out.1.1; obtain ⟨b0, b1, b2, b3⟩ := cells4 HA.out.1.2.1)
  go_wp2_with fail
  ((with_reducible refine (convert_any k2 n2 o2 _ s2 _ (by omega) hn2).mono ?_))
  rintro e wx ⟨rfl, hb⟩
  rw [HC.out]
  unfold badV
  (have HA2 := HA; clear HA; have HA := Lib.hid (HA2.out.below hb); clear HA2 hb; clear a0 a1 a2 a3 b0 b1 b2 b3; obtain ⟨a0, a1, a2, a3⟩ := cells4 HA.out.1.1; obtain ⟨b0, b1, b2, b3⟩ := cells4 HA.out.1.2.1)
  (have r0 := fun o => (cells4 (HA.out.alloc o).1.2.2).1; have r1 := fun o => (cells4 (HA.out.alloc o).1.2.2).2.1; have r2 := fun o => (cells4 (HA.out.alloc o).1.2.2).2.2.1; have r3 := fun o => (cells4 (HA.out.alloc o).1.2.2).2.2.2; have g0 := fun o => free3 (HA.out.alloc o).1.2.2 0; have g1 := fun o => free3 (HA.out.alloc o).1.2.2 1; have g2 := fun o => free3 (HA.out.alloc o).1.2.2 2; have g3 := fun o => free3 (HA.out.alloc o).1.2.2 3)
  go_wp2_with fail
  exact bodyPost_ret (ret_bin _ _ _ _ _ _ _ rfl (put4 (HA.out.alloc _).1.2.2 _ _ _ _)) rfl ⟨by rfl, bel4 (HA.out.alloc _).2 (by omega) _ _ _ _⟩
set_option maxRecDepth 100000 in
set_option maxHeartbeats 2000000 in
theorem bin_cat_1 (n1 o1 k2 n2 o2 : Int) (s1 s2 : List UInt8) (w : World) (hs1 : s1.length ≤ 9223372036854774000) (hs2 : s2.length ≤ 9223372036854774000) (hv1 : validV 1 s1 = true) (hv2 : validV k2 s2 = true)  (n3 : Int) (s3 : List UInt8) (HC : Hid (cvV k2 n2 s2 o2 1 = (valV 1 n3 s3 0, 0))) (hn2 : 0 ≤ n2) (hn1 : 0 ≤ n1) (hn3 : 0 ≤ n3) (hl1 : (1 : Int) ≠ 1 → s1.length ≤ 1000000) (hl3 : (1 : Int) ≠ 1 → s3.length ≤ 1000000) : Calls Tryd.prog 16 #[.int .i64 75, valV 1 n1 s1 o1, valV k2 n2 s2 o2] w (CvPost w (catV 1 n1 s1 n3 s3)) := by
  have HV1 := Lib.hid hv1
  clear hv1
  have HV2 := Lib.hid hv2
  clear hv2
  obtain ⟨⟨r, er⟩, hr⟩ : ∃ r, catV 1 n1 s1 n3 s3 = r := ⟨_, rfl⟩
  obtain ⟨va, vb, vt, vc, hf⟩ := cat_form 1 n1 s1 n3 s3
  rw [hr] at hf
  have HR := Lib.hid hr
  simp only at hf
  subst hf
  clear hr
  have HL1 := Lib.hid hl1
  have HL3 := Lib.hid hl3
  clear hl1 hl3
  have HA := Lib.hid (B2.start w (vObj 1 n1 s1 o1) (vObj k2 n2 s2 o2))
  (obtain ⟨a0, a1, a2, a3⟩ := cells4 HA.out.1.1; obtain ⟨b0, b1, b2, b3⟩ := cells4 HA.out.1.2.1)
  go_enter Tryd.func16, Tryd.ntmps16
  go_wp2_with fail
  ((with_reducible refine (valid_is 1 n1 o1 s1 true HV1 _ (by omega)).mono ?_))
  rintro e wx ⟨rfl, hb⟩
  (have HA2 := HA; clear HA; have HA := Lib.hid (HA2.out.below hb); clear HA2 hb; clear a0 a1 a2 a3 b0 b1 b2 b3; obtain ⟨a0, a1, a2, a3⟩ := cells4 HA.out.1.1; obtain ⟨b0, b1, b2, b3⟩ := cells4 HA.out.1.2.1)
  go_wp2_with fail
  ((with_reducible refine (valid_is k2 n2 o2 s2 true HV2 _ (by omega)).mono ?_))
  rintro e wx ⟨rfl, hb⟩
  (have HA2 := HA; clear HA; have HA := Lib.hid (HA2.out.below hb); clear HA2 hb; clear a0 a1 a2 a3 b0 b1 b2 b3; obtain ⟨a0, a1, a2, a3⟩ := cells4 HA.out.1.1; obtain ⟨b0, b1, b2, b3⟩ := cells4 HA.out.1.2.1)
  go_wp2_with fail
  ((with_reducible refine (convert_any k2 n2 o2 _ s2 _ (by omega) hn2).mono ?_))
  rintro e wx ⟨rfl, hb⟩
  rw [HC.out]
  (have HA2 := HA; clear HA; have HA := Lib.hid (HA2.out.below hb); clear HA2 hb; clear a0 a1 a2 a3 b0 b1 b2 b3; obtain ⟨a0, a1, a2, a3⟩ := cells4 HA.out.1.1; obtain ⟨b0, b1, b2, b3⟩ := cells4 HA.out.1.2.1)
  (have q0 := fun o => (cells4 (HA.out.alloc o).1.1).1; have q1 := fun o => (cells4 (HA.out.alloc o).1.1).2.1; have q2 := fun o => (cells4 (HA.out.alloc o).1.1).2.2.1; have q3 := fun o => (cells4 (HA.out.alloc o).1.1).2.2.2)
  go_wp2_with fail
  ((with_reducible refine (cat_any 1 n1 o1 n3 0 1 s1 s3 _ hn1 hn3 HL1.out HL3.out).mono ?_))
  rintro e wx ⟨rfl, hb⟩
  rw [HR.out]
  (have HA2 := HA; clear HA; have HA := Lib.hid ((HA2.out.alloc _).below hb); clear HA2 hb; clear a0 a1 a2 a3 b0 b1 b2 b3; obtain ⟨a0, a1, a2, a3⟩ := cells4 HA.out.1.1; obtain ⟨b0, b1, b2, b3⟩ := cells4 HA.out.1.2.1; clear q0 q1 q2 q3)
  (have hn := HA.out.1.2.2; obtain ⟨c0, c1, c2, c3⟩ := cells4 hn; have f0 := free3 hn 0; have f1 := free3 hn 1; have f2 := free3 hn 2; have f3 := free3 hn 3; clear hn)
  go_wp2_with fail
  exact bodyPost_ret (ret_bin _ _ _ _ _ _ _ rfl (put4 HA.out.1.2.2 _ _ _ _)) rfl ⟨by rw [HR.out]; rfl, bel4 HA.out.2 (by omega) _ _ _ _⟩
set_option maxRecDepth 100000 in
set_option maxHeartbeats 2000000 in
theorem bin_cat_2 (n1 o1 k2 n2 o2 : Int) (s1 s2 : List UInt8) (w : World) (hs1 : s1.length ≤ 9223372036854774000) (hs2 : s2.length ≤ 9223372036854774000) (hv1 : validV 2 s1 = true) (hv2 : validV k2 s2 = true)  (n3 : Int) (s3 : List UInt8) (HC : Hid (cvV k2 n2 s2 o2 2 = (valV 2 n3 s3 0, 0))) (hn2 : 0 ≤ n2) (hn1 : 0 ≤ n1) (hn3 : 0 ≤ n3) (hl1 : (2 : Int) ≠ 1 → s1.length ≤ 1000000) (hl3 : (2 : Int) ≠ 1 → s3.length ≤ 1000000) : Calls Tryd.prog 16 #[.int .i64 75, valV 2 n1 s1 o1, valV k2 n2 s2 o2] w (CvPost w (catV 2 n1 s1 n3 s3)) := by
  have HV1 := Lib.hid hv1
  clear hv1
  have HV2 := Lib.hid hv2
  clear hv2
  obtain ⟨⟨r, er⟩, hr⟩ : ∃ r, catV 2 n1 s1 n3 s3 = r := ⟨_, rfl⟩
  obtain ⟨va, vb, vt, vc, hf⟩ := cat_form 2 n1 s1 n3 s3
  rw [hr] at hf
  have HR := Lib.hid hr
  simp only at hf
  subst hf
  clear hr
  have HL1 := Lib.hid hl1
  have HL3 := Lib.hid hl3
  clear hl1 hl3
  have HA := Lib.hid (B2.start w (vObj 2 n1 s1 o1) (vObj k2 n2 s2 o2))
  (obtain ⟨a0, a1, a2, a3⟩ := cells4 HA.out.1.1; obtain ⟨b0, b1, b2, b3⟩ := cells4 HA.out.1.2.1)
  go_enter Tryd.func16, Tryd.ntmps16
  go_wp2_with fail
  ((with_reducible refine (valid_is 2 n1 o1 s1 true HV1 _ (by omega)).mono ?_))
  rintro e wx ⟨rfl, hb⟩
  (have HA2 := HA; clear HA; have HA := Lib.hid (HA2.out.below hb); clear HA2 hb; clear a0 a1 a2 a3 b0 b1 b2 b3; obtain ⟨a0, a1, a2, a3⟩ := cells4 HA.out.1.1; obtain ⟨b0, b1, b2, b3⟩ := cells4 HA.out.1.2.1)
  go_wp2_with fail
  ((with_reducible refine (valid_is k2 n2 o2 s2 true HV2 _ (by omega)).mono ?_))
  rintro e wx ⟨rfl, hb⟩
  (have HA2 := HA; clear HA; have HA := Lib.hid (HA2.out.below hb); clear HA2 hb; clear a0 a1 a2 a3 b0 b1 b2 b3; obtain ⟨a0, a1, a2, a3⟩ := cells4 HA.out.1.1; obtain ⟨b0, b1, b2, b3⟩ := cells4 HA.out.1.2.1)
  go_wp2_with fail
  ((with_reducible refine (convert_any k2 n2 o2 _ s2 _ (by omega) hn2).mono ?_))
  rintro e wx ⟨rfl, hb⟩
  rw [HC.out]
  (have HA2 := HA; clear HA; have HA := Lib.hid (HA2.out.below hb); clear HA2 hb; clear a0 a1 a2 a3 b0 b1 b2 b3; obtain ⟨a0, a1, a2, a3⟩ := cells4 HA.out.1.1; obtain ⟨b0, b1, b2, b3⟩ := cells4 HA.out.1.2.1)
  (have q0 := fun o => (cells4 (HA.out.alloc o).1.1).1; have q1 := fun o => (cells4 (HA.out.alloc o).1.1).2.1; have q2 := fun o => (cells4 (HA.out.alloc o).1.1).2.2.1; have q3 := fun o => (cells4 (HA.out.alloc o).1.1).2.2.2)
  go_wp2_with fail
  ((with_reducible refine (cat_any 2 n1 o1 n3 0 2 s1 s3 _ hn1 hn3 HL1.out HL3.out).mono ?_))
  rintro e wx ⟨rfl, hb⟩
  rw [HR.out]
  (have HA2 := HA; clear HA; have HA := Lib.hid ((HA2.out.alloc _).below hb); clear HA2 hb; clear a0 a1 a2 a3 b0 b1 b2 b3; obtain ⟨a0, a1, a2, a3⟩ := cells4 HA.out.1.1; obtain ⟨b0, b1, b2, b3⟩ := cells4 HA.out.1.2.1; clear q0 q1 q2 q3)
  (have hn := HA.out.1.2.2; obtain ⟨c0, c1, c2, c3⟩ := cells4 hn; have f0 := free3 hn 0; have f1 := free3 hn 1; have f2 := free3 hn 2; have f3 := free3 hn 3; clear hn)
  go_wp2_with fail
  exact bodyPost_ret (ret_bin _ _ _ _ _ _ _ rfl (put4 HA.out.1.2.2 _ _ _ _)) rfl ⟨by rw [HR.out]; rfl, bel4 HA.out.2 (by omega) _ _ _ _⟩
set_option maxRecDepth 100000 in
set_option maxHeartbeats 2000000 in
theorem bin_cat_3 (n1 o1 k2 n2 o2 : Int) (s1 s2 : List UInt8) (w : World) (hs1 : s1.length ≤ 9223372036854774000) (hs2 : s2.length ≤ 9223372036854774000) (hv1 : validV 3 s1 = true) (hv2 : validV k2 s2 = true)  (n3 : Int) (s3 : List UInt8) (HC : Hid (cvV k2 n2 s2 o2 3 = (valV 3 n3 s3 0, 0))) (hn2 : 0 ≤ n2) (hn1 : 0 ≤ n1) (hn3 : 0 ≤ n3) (hl1 : (3 : Int) ≠ 1 → s1.length ≤ 1000000) (hl3 : (3 : Int) ≠ 1 → s3.length ≤ 1000000) : Calls Tryd.prog 16 #[.int .i64 75, valV 3 n1 s1 o1, valV k2 n2 s2 o2] w (CvPost w (catV 3 n1 s1 n3 s3)) := by
  have HV1 := Lib.hid hv1
  clear hv1
  have HV2 := Lib.hid hv2
  clear hv2
  obtain ⟨⟨r, er⟩, hr⟩ : ∃ r, catV 3 n1 s1 n3 s3 = r := ⟨_, rfl⟩
  obtain ⟨va, vb, vt, vc, hf⟩ := cat_form 3 n1 s1 n3 s3
  rw [hr] at hf
  have HR := Lib.hid hr
  simp only at hf
  subst hf
  clear hr
  have HL1 := Lib.hid hl1
  have HL3 := Lib.hid hl3
  clear hl1 hl3
  have HA := Lib.hid (B2.start w (vObj 3 n1 s1 o1) (vObj k2 n2 s2 o2))
  (obtain ⟨a0, a1, a2, a3⟩ := cells4 HA.out.1.1; obtain ⟨b0, b1, b2, b3⟩ := cells4 HA.out.1.2.1)
  go_enter Tryd.func16, Tryd.ntmps16
  go_wp2_with fail
  ((with_reducible refine (valid_is 3 n1 o1 s1 true HV1 _ (by omega)).mono ?_))
  rintro e wx ⟨rfl, hb⟩
  (have HA2 := HA; clear HA; have HA := Lib.hid (HA2.out.below hb); clear HA2 hb; clear a0 a1 a2 a3 b0 b1 b2 b3; obtain ⟨a0, a1, a2, a3⟩ := cells4 HA.out.1.1; obtain ⟨b0, b1, b2, b3⟩ := cells4 HA.out.1.2.1)
  go_wp2_with fail
  ((with_reducible refine (valid_is k2 n2 o2 s2 true HV2 _ (by omega)).mono ?_))
  rintro e wx ⟨rfl, hb⟩
  (have HA2 := HA; clear HA; have HA := Lib.hid (HA2.out.below hb); clear HA2 hb; clear a0 a1 a2 a3 b0 b1 b2 b3; obtain ⟨a0, a1, a2, a3⟩ := cells4 HA.out.1.1; obtain ⟨b0, b1, b2, b3⟩ := cells4 HA.out.1.2.1)
  go_wp2_with fail
  ((with_reducible refine (convert_any k2 n2 o2 _ s2 _ (by omega) hn2).mono ?_))
  rintro e wx ⟨rfl, hb⟩
  rw [HC.out]
  (have HA2 := HA; clear HA; have HA := Lib.hid (HA2.out.below hb); clear HA2 hb; clear a0 a1 a2 a3 b0 b1 b2 b3; obtain ⟨a0, a1, a2, a3⟩ := cells4 HA.out.1.1; obtain ⟨b0, b1, b2, b3⟩ := cells4 HA.out.1.2.1)
  (have q0 := fun o => (cells4 (HA.out.alloc o).1.1).1; have q1 := fun o => (cells4 (HA.out.alloc o).1.1).2.1; have q2 := fun o => (cells4 (HA.out.alloc o).1.1).2.2.1; have q3 := fun o => (cells4 (HA.out.alloc o).1.1).2.2.2)
  go_wp2_with fail
  ((with_reducible refine (cat_any 3 n1 o1 n3 0 3 s1 s3 _ hn1 hn3 HL1.out HL3.out).mono ?_))
  rintro e wx ⟨rfl, hb⟩
  rw [HR.out]
  (have HA2 := HA; clear HA; have HA := Lib.hid ((HA2.out.alloc _).below hb); clear HA2 hb; clear a0 a1 a2 a3 b0 b1 b2 b3; obtain ⟨a0, a1, a2, a3⟩ := cells4 HA.out.1.1; obtain ⟨b0, b1, b2, b3⟩ := cells4 HA.out.1.2.1; clear q0 q1 q2 q3)
  (have hn := HA.out.1.2.2; obtain ⟨c0, c1, c2, c3⟩ := cells4 hn; have f0 := free3 hn 0; have f1 := free3 hn 1; have f2 := free3 hn 2; have f3 := free3 hn 3; clear hn)
  go_wp2_with fail
  exact bodyPost_ret (ret_bin _ _ _ _ _ _ _ rfl (put4 HA.out.1.2.2 _ _ _ _)) rfl ⟨by rw [HR.out]; rfl, bel4 HA.out.2 (by omega) _ _ _ _⟩
set_option maxRecDepth 100000 in
set_option maxHeartbeats 2000000 in
theorem bin_cmp_1 (op n1 o1 k2 n2 o2 : Int) (s1 s2 : List UInt8) (w : World) (hs1 : s1.length ≤ 9223372036854774000) (hs2 : s2.length ≤ 9223372036854774000) (hv1 : validV 1 s1 = true) (hv2 : validV k2 s2 = true) (ho : 72 ≤ op) (ho2 : op ≤ 75) (n3 : Int) (s3 : List UInt8) (HC : Hid (cvV k2 n2 s2 o2 1 = (valV 1 n3 s3 0, 0))) (hn2 : 0 ≤ n2) (hne : op ≠ 75) (T : Int) (HT : Hid (cmpT op 1 n1 s1 n3 s3 = T)) : Calls Tryd.prog 16 #[.int .i64 op, valV 1 n1 s1 o1, valV k2 n2 s2 o2] w (CvPost w (valV 1 T [] 0, 0)) := by
  have HV1 := Lib.hid hv1
  clear hv1
  have HV2 := Lib.hid hv2
  clear hv2
  have ne75 : (op == 75) = false := by rw [beq_eq_false_iff_ne]; exact hne
  clear hne
  have HA := Lib.hid (B2.start w (vObj 1 n1 s1 o1) (vObj k2 n2 s2 o2))
  (obtain ⟨a0, a1, a2, a3⟩ := cells4 HA.out.1.1; obtain ⟨b0, b1, b2, b3⟩ := cells4 HA.out.1.2.1)
  go_enter Tryd.func16, Tryd.ntmps16
  go_wp2_with fail
  ((with_reducible refine (valid_is 1 n1 o1 s1 true HV1 _ (by omega)).mono ?_))
  rintro e wx ⟨rfl, hb⟩
  (have HA2 := HA; clear HA; have HA := Lib.hid (HA2.out.below hb); clear HA2 hb; clear a0 a1 a2 a3 b0 b1 b2 b3; obtain ⟨a0, a1, a2, a3⟩ := cells4 HA.out.1.1; obtain ⟨b0, b1, b2, b3⟩ := cells4 HA.out.1.2.1)
  go_wp2_with fail
  ((with_reducible refine (valid_is k2 n2 o2 s2 true HV2 _ (by omega)).mono ?_))
  rintro e wx ⟨rfl, hb⟩
  (have HA2 := HA; clear HA; have HA := Lib.hid (HA2.out.below hb); clear HA2 hb; clear a0 a1 a2 a3 b0 b1 b2 b3; obtain ⟨a0, a1, a2, a3⟩ := cells4 HA.out.1.1; obtain ⟨b0, b1, b2, b3⟩ := cells4 HA.out.1.2.1)
  go_wp2_with fail
  ((with_reducible refine (convert_any k2 n2 o2 _ s2 _ (by omega) hn2).mono ?_))
  rintro e wx ⟨rfl, hb⟩
  rw [HC.out]
  (have HA2 := HA; clear HA; have HA := Lib.hid (HA2.out.below hb); clear HA2 hb; clear a0 a1 a2 a3 b0 b1 b2 b3; obtain ⟨a0, a1, a2, a3⟩ := cells4 HA.out.1.1; obtain ⟨b0, b1, b2, b3⟩ := cells4 HA.out.1.2.1)
  (have q0 := fun o => (cells4 (HA.out.alloc o).1.1).1; have q1 := fun o => (cells4 (HA.out.alloc o).1.1).2.1; have q2 := fun o => (cells4 (HA.out.alloc o).1.1).2.2.1; have q3 := fun o => (cells4 (HA.out.alloc o).1.1).2.2.2)
  go_wp2_with fail
  ((with_reducible refine (compare_is op 1 n1 o1 n3 0 1 s1 s3 T HT _).mono ?_))
  rintro e wx ⟨rfl, hb⟩
  (have HA2 := HA; clear HA; have HA := Lib.hid ((HA2.out.alloc _).below hb); clear HA2 hb; clear a0 a1 a2 a3 b0 b1 b2 b3; obtain ⟨a0, a1, a2, a3⟩ := cells4 HA.out.1.1; obtain ⟨b0, b1, b2, b3⟩ := cells4 HA.out.1.2.1; clear q0 q1 q2 q3)
  (have hn := HA.out.1.2.2; obtain ⟨c0, c1, c2, c3⟩ := cells4 hn; have f0 := free3 hn 0; have f1 := free3 hn 1; have f2 := free3 hn 2; have f3 := free3 hn 3; clear hn)
  go_wp2_with fail
  exact bodyPost_ret (ret_bin _ _ _ _ _ _ _ rfl (put4 HA.out.1.2.2 _ _ _ _)) rfl ⟨by rfl, bel4 HA.out.2 (by omega) _ _ _ _⟩
set_option maxRecDepth 100000 in
set_option maxHeartbeats 2000000 in
theorem bin_cmp_2 (op n1 o1 k2 n2 o2 : Int) (s1 s2 : List UInt8) (w : World) (hs1 : s1.length ≤ 9223372036854774000) (hs2 : s2.length ≤ 9223372036854774000) (hv1 : validV 2 s1 = true) (hv2 : validV k2 s2 = true) (ho : 72 ≤ op) (ho2 : op ≤ 75) (n3 : Int) (s3 : List UInt8) (HC : Hid (cvV k2 n2 s2 o2 2 = (valV 2 n3 s3 0, 0))) (hn2 : 0 ≤ n2) (hne : op ≠ 75) (T : Int) (HT : Hid (cmpT op 2 n1 s1 n3 s3 = T)) : Calls Tryd.prog 16 #[.int .i64 op, valV 2 n1 s1 o1, valV k2 n2 s2 o2] w (CvPost w (valV 1 T [] 0, 0)) := by
  have HV1 := Lib.hid hv1
  clear hv1
  have HV2 := Lib.hid hv2
  clear hv2
  have ne75 : (op == 75) = false := by rw [beq_eq_false_iff_ne]; exact hne
  clear hne
  have HA := Lib.hid (B2.start w (vObj 2 n1 s1 o1) (vObj k2 n2 s2 o2))
  (obtain ⟨a0, a1, a2, a3⟩ := cells4 HA.out.1.1; obtain ⟨b0, b1, b2, b3⟩ := cells4 HA.out.1.2.1)
  go_enter Tryd.func16, Tryd.ntmps16
  go_wp2_with fail
  ((with_reducible refine (valid_is 2 n1 o1 s1 true HV1 _ (by omega)).mono ?_))
  rintro e wx ⟨rfl, hb⟩
  (have HA2 := HA; clear HA; have HA := Lib.hid (HA2.out.below hb); clear HA2 hb; clear a0 a1 a2 a3 b0 b1 b2 b3; obtain ⟨a0, a1, a2, a3⟩ := cells4 HA.out.1.1; obtain ⟨b0, b1, b2, b3⟩ := cells4 HA.out.1.2.1)
  go_wp2_with fail
  ((with_reducible refine (valid_is k2 n2 o2 s2 true HV2 _ (by omega)).mono ?_))
  rintro e wx ⟨rfl, hb⟩
  (have HA2 := HA; clear HA; have HA := Lib.hid (HA2.out.below hb); clear HA2 hb; clear a0 a1 a2 a3 b0 b1 b2 b3; obtain ⟨a0, a1, a2, a3⟩ := cells4 HA.out.1.1; obtain ⟨b0, b1, b2, b3⟩ := cells4 HA.out.1.2.1)
  go_wp2_with fail
  ((with_reducible refine (convert_any k2 n2 o2 _ s2 _ (by omega) hn2).mono ?_))
  rintro e wx ⟨rfl, hb⟩
  rw [HC.out]
  (have HA2 := HA; clear HA; have HA := Lib.hid (HA2.out.below hb); clear HA2 hb; clear a0 a1 a2 a3 b0 b1 b2 b3; obtain ⟨a0, a1, a2, a3⟩ := cells4 HA.out.1.1; obtain ⟨b0, b1, b2, b3⟩ := cells4 HA.out.1.2.1)
  (have q0 := fun o => (cells4 (HA.out.alloc o).1.1).1; have q1 := fun o => (cells4 (HA.out.alloc o).1.1).2.1; have q2 := fun o => (cells4 (HA.out.alloc o).1.1).2.2.1; have q3 := fun o => (cells4 (HA.out.alloc o).1.1).2.2.2)
  go_wp2_with fail
  ((with_reducible refine (compare_is op 2 n1 o1 n3 0 2 s1 s3 T HT _).mono ?_))
  rintro e wx ⟨rfl, hb⟩
  (have HA2 := HA; clear HA; have HA := Lib.hid ((HA2.out.alloc _).below hb); clear HA2 hb; clear a0 a1 a2 a3 b0 b1 b2 b3; obtain ⟨a0, a1, a2, a3⟩ := cells4 HA.out.1.1; obtain ⟨b0, b1, b2, b3⟩ := cells4 HA.out.1.2.1; clear q0 q1 q2 q3)
  (have hn := HA.out.1.2.2; obtain ⟨c0, c1, c2, c3⟩ := cells4 hn; have f0 := free3 hn 0; have f1 := free3 hn 1; have f2 := free3 hn 2; have f3 := free3 hn 3; clear hn)
  go_wp2_with fail
  exact bodyPost_ret (ret_bin _ _ _ _ _ _ _ rfl (put4 HA.out.1.2.2 _ _ _ _)) rfl ⟨by rfl, bel4 HA.out.2 (by omega) _ _ _ _⟩
set_option maxRecDepth 100000 in
set_option maxHeartbeats 2000000 in
theorem bin_cmp_3 (op n1 o1 k2 n2 o2 : Int) (s1 s2 : List UInt8) (w : World) (hs1 : s1.length ≤ 9223372036854774000) (hs2 : s2.length ≤ 9223372036854774000) (hv1 : validV 3 s1 = true) (hv2 : validV k2 s2 = true) (ho : 72 ≤ op) (ho2 : op ≤ 75) (n3 : Int) (s3 : List UInt8) (HC : Hid (cvV k2 n2 s2 o2 3 = (valV 3 n3 s3 0, 0))) (hn2 : 0 ≤ n2) (hne : op ≠ 75) (T : Int) (HT : Hid (cmpT op 3 n1 s1 n3 s3 = T)) : Calls Tryd.prog 16 #[.int .i64 op, valV 3 n1 s1 o1, valV k2 n2 s2 o2] w (CvPost w (valV 1 T [] 0, 0)) := by
  have HV1 := Lib.hid hv1
  clear hv1
  have HV2 := Lib.hid hv2
  clear hv2
  have ne75 : (op == 75) = false := by rw [beq_eq_false_iff_ne]; exact hne
  clear hne
  have HA := Lib.hid (B2.start w (vObj 3 n1 s1 o1) (vObj k2 n2 s2 o2))
  (obtain ⟨a0, a1, a2, a3⟩ := cells4 HA.out.1.1; obtain ⟨b0, b1, b2, b3⟩ := cells4 HA.out.1.2.1)
  go_enter Tryd.func16, Tryd.ntmps16
  go_wp2_with fail
  ((with_reducible refine (valid_is 3 n1 o1 s1 true HV1 _ (by omega)).mono ?_))
  rintro e wx ⟨rfl, hb⟩
  (have HA2 := HA; clear HA; have HA := Lib.hid (HA2.out.below hb); clear HA2 hb; clear a0 a1 a2 a3 b0 b1 b2 b3; obtain ⟨a0, a1, a2, a3⟩ := cells4 HA.out.1.1; obtain ⟨b0, b1, b2, b3⟩ := cells4 HA.out.1.2.1)
  go_wp2_with fail
  ((with_reducible refine (valid_is k2 n2 o2 s2 true HV2 _ (by omega)).mono ?_))
  rintro e wx ⟨rfl, hb⟩
  (have HA2 := HA; clear HA; have HA := Lib.hid (HA2.out.below hb); clear HA2 hb; clear a0 a1 a2 a3 b0 b1 b2 b3; obtain ⟨a0, a1, a2, a3⟩ := cells4 HA.out.1.1; obtain ⟨b0, b1, b2, b3⟩ := cells4 HA.out.1.2.1)
  go_wp2_with fail
  ((with_reducible refine (convert_any k2 n2 o2 _ s2 _ (by omega) hn2).mono ?_))
  rintro e wx ⟨rfl, hb⟩
  rw [HC.out]
  (have HA2 := HA; clear HA; have HA := Lib.hid (HA2.out.below hb); clear HA2 hb; clear a0 a1 a2 a3 b0 b1 b2 b3; obtain ⟨a0, a1, a2, a3⟩ := cells4 HA.out.1.1; obtain ⟨b0, b1, b2, b3⟩ := cells4 HA.out.1.2.1)
  (have q0 := fun o => (cells4 (HA.out.alloc o).1.1).1; have q1 := fun o => (cells4 (HA.out.alloc o).1.1).2.1; have q2 := fun o => (cells4 (HA.out.alloc o).1.1).2.2.1; have q3 := fun o => (cells4 (HA.out.alloc o).1.1).2.2.2)
  go_wp2_with fail
  ((with_reducible refine (compare_is op 3 n1 o1 n3 0 3 s1 s3 T HT _).mono ?_))
  rintro e wx ⟨rfl, hb⟩
  (have HA2 := HA; clear HA; have HA := Lib.hid ((HA2.out.alloc _).below hb); clear HA2 hb; clear a0 a1 a2 a3 b0 b1 b2 b3; obtain ⟨a0, a1, a2, a3⟩ := cells4 HA.out.1.1; obtain ⟨b0, b1, b2, b3⟩ := cells4 HA.out.1.2.1; clear q0 q1 q2 q3)
  (have hn := HA.out.1.2.2; obtain ⟨c0, c1, c2, c3⟩ := cells4 hn; have f0 := free3 hn 0; have f1 := free3 hn 1; have f2 := free3 hn 2; have f3 := free3 hn 3; clear hn)
  go_wp2_with fail
  exact bodyPost_ret (ret_bin _ _ _ _ _ _ _ rfl (put4 HA.out.1.2.2 _ _ _ _)) rfl ⟨by rfl, bel4 HA.out.2 (by omega) _ _ _ _⟩
theorem intV_bound {k n : Int} {s : List UInt8} {x e : Int} (hn : 0 ≤ n) (hm : n ≤ 18446744073709551615) (h : intV k n s = (x, e)) : 0 ≤ x ∧ x ≤ 18446744073709551615 := by
  have hh := hexGo_lt s 16 0 0
  have hn8 := num_lt (s.take 8)
  have hp : 256 ^ (s.take 8).length ≤ 256 ^ 8 := Nat.pow_le_pow_right (by omega) (by rw [List.length_take]; omega)
  have e1 : (0 + 1) * 16 ^ 16 = 18446744073709551616 := by decide
  have e2 : 256 ^ 8 = 18446744073709551616 := by decide
  rw [e1] at hh
  rw [e2] at hp
  unfold intV hexN at h
  repeat' split at h
  all_goals
    injection h with h1 h2
    subst h1
    constructor <;> omega
theorem lim_len (l : List UInt8) : (limV l).1.length ≤ 255 := by
  unfold limV
  split
  · assumption
  · simp
theorem strOfV_len {k n : Int} {s : List UInt8} (hv : validV k s = true) : (strOfV k n s).1.length ≤ 255 := by
  have hv0 := hv
  unfold validV at hv
  rw [decide_eq_true_eq] at hv
  unfold strOfV
  rw [if_neg (by rw [hv0]; decide)]
  by_cases h2 : k = 2
  · rw [if_pos h2]; show s.length ≤ 255; omega
  · rw [if_neg h2]
    by_cases h1 : k = 1
    · rw [if_pos h1]; show (hexK _ _).length ≤ 255; rw [hexK_len]; omega
    · rw [if_neg h1]
      by_cases h3 : k = 3
      · rw [if_pos h3]; exact lim_len _
      · rw [if_neg h3]; exact Nat.zero_le _
theorem bufV_len {k n : Int} {s : List UInt8} (hv : validV k s = true) : (bufV k n s).1.length ≤ 255 := by
  have hv0 := hv
  unfold validV at hv
  rw [decide_eq_true_eq] at hv
  unfold bufV
  rw [if_neg (by rw [hv0]; decide)]
  by_cases h2 : k = 3
  · rw [if_pos h2]; show s.length ≤ 255; omega
  · rw [if_neg h2]
    by_cases h1 : k = 1
    · rw [if_pos h1]; show (little _ _).length ≤ 255; rw [little_length]; omega
    · rw [if_neg h1]
      by_cases h3 : k = 2
      · rw [if_pos h3]; exact lim_len _
      · rw [if_neg h3]; exact Nat.zero_le _
theorem cvK_ok {k n : Int} {s : List UInt8} {kind : Int} (hn : 0 ≤ n) (h : (cvK k n s kind).2.2 = 0) : 0 ≤ (cvK k n s kind).1 ∧ (cvK k n s kind).2.1.length ≤ 255 := by
  have hs := @strOfV_len k n s
  have hb := @bufV_len k n s
  unfold cvK at *
  by_cases hv : validV k s = false
  · rw [if_pos hv] at h; cases h
  · rw [if_neg hv] at h ⊢
    have hv' : validV k s = true := by simpa using hv
    by_cases h1 : kind = 1
    · rw [if_pos h1] at h ⊢
      by_cases h0 : (intV k n s).2 = 0
      · rw [if_pos h0]
        have : 0 ≤ (intV k n s).1 := by unfold intV; repeat' split
                                        all_goals first | exact hn | (simp; done) | omega
        exact ⟨this, by simp⟩
      · rw [if_neg h0]; exact ⟨by simp, by simp⟩
    · rw [if_neg h1] at h ⊢
      by_cases h2 : kind = 2
      · rw [if_pos h2] at h ⊢
        by_cases h0 : (strOfV k n s).2 = 0
        · rw [if_pos h0]; exact ⟨by simp, hs hv'⟩
        · rw [if_neg h0]; exact ⟨by simp, by simp⟩
      · rw [if_neg h2] at h ⊢
        by_cases h0 : (bufV k n s).2 = 0
        · rw [if_pos h0]; exact ⟨by simp, hb hv'⟩
        · rw [if_neg h0]; exact ⟨by simp, by simp⟩
theorem bin_any (op k1 n1 o1 k2 n2 o2 : Int) (s1 s2 : List UInt8) (w : World) (hs1 : s1.length ≤ 9223372036854774000) (hs2 : s2.length ≤ 9223372036854774000) (hn1 : 0 ≤ n1) (hn2 : 0 ≤ n2) (hm1 : n1 ≤ 18446744073709551615) (hm2 : n2 ≤ 18446744073709551615) : Calls Tryd.prog 16 #[.int .i64 op, valV k1 n1 s1 o1, valV k2 n2 s2 o2] w (CvPost w (binV op k1 n1 s1 k2 n2 s2)) := by
  unfold binV
  cases hv1 : validV k1 s1
  · rw [if_pos rfl]; exact bin_bad1 op k1 n1 o1 k2 n2 o2 s1 s2 w hs1 hs2 hv1
  rw [if_neg (by decide)]
  cases hv2 : validV k2 s2
  · rw [if_pos rfl]; exact bin_bad2 op k1 n1 o1 k2 n2 o2 s1 s2 w hs1 hs2 hv1 hv2
  rw [if_neg (by decide)]
  by_cases ho : op < 60 ∨ 75 < op
  · rw [if_pos ho]
    rcases ho with ho | ho
    · exact bin_low op k1 n1 o1 k2 n2 o2 s1 s2 w hs1 hs2 hv1 hv2 ho
    · exact bin_high op k1 n1 o1 k2 n2 o2 s1 s2 w hs1 hs2 hv1 hv2 ho
  rw [if_neg ho]
  by_cases ho2 : op ≤ 71
  · rw [if_pos ho2]
    obtain ⟨⟨x, e1⟩, h1⟩ : ∃ r, intV k1 n1 s1 = r := ⟨_, rfl⟩
    obtain ⟨⟨y, e2⟩, h2⟩ : ∃ r, intV k2 n2 s2 = r := ⟨_, rfl⟩
    rw [h1, h2]
    by_cases he1 : e1 = 0
    · subst he1
      rw [if_neg (by simp)]
      by_cases he2 : e2 = 0
      · subst he2
        rw [if_neg (by simp)]
        have b1 := intV_bound hn1 hm1 h1
        have b2 := intV_bound hn2 hm2 h2
        exact bin_ar op k1 n1 o1 k2 n2 o2 s1 s2 w hs1 hs2 hv1 hv2 (by omega) ho2 x y (Lib.hid h1) (Lib.hid h2) b1.1 b1.2 b2.1 b2.2
      · rw [if_pos he2]
        exact bin_ar2 op k1 n1 o1 k2 n2 o2 s1 s2 w hs1 hs2 hv1 hv2 (by omega) ho2 x y e2 (Lib.hid h1) (Lib.hid h2) he2
    · rw [if_pos he1]
      exact bin_ar1 op k1 n1 o1 k2 n2 o2 s1 s2 w hs1 hs2 hv1 hv2 (by omega) ho2 x e1 (Lib.hid h1) he1
  rw [if_neg ho2]
  by_cases hk : k1 = 1 ∨ k1 = 2 ∨ k1 = 3
  · rw [if_neg (fun h => h hk)]
    have hc := cvV_k k2 n2 s2 o2 k1 hk
    have hok := @cvK_ok k2 n2 s2 k1 hn2
    obtain ⟨⟨x, t, er⟩, hr⟩ : ∃ r, cvK k2 n2 s2 k1 = r := ⟨_, rfl⟩
    rw [hr] at hc hok ⊢
    simp only at hc hok ⊢
    by_cases he : er = 0
    · subst he
      rw [if_pos rfl] at hc
      rw [if_neg (by simp)]
      obtain ⟨hx, ht⟩ := hok rfl
      unfold pairV
      have hl : k1 ≠ 1 → s1.length ≤ 1000000 := by
        intro hne
        have : validV k1 s1 = true := hv1
        unfold validV at this
        rw [decide_eq_true_eq] at this
        omega
      by_cases h75 : op = 75
      · subst h75
        rw [if_pos rfl]
        rcases hk with rfl | rfl | rfl
        · exact bin_cat_1 n1 o1 k2 n2 o2 s1 s2 w hs1 hs2 hv1 hv2 x t (Lib.hid hc) hn2 hn1 hx (fun h => absurd rfl h) (fun h => absurd rfl h)
        · exact bin_cat_2 n1 o1 k2 n2 o2 s1 s2 w hs1 hs2 hv1 hv2 x t (Lib.hid hc) hn2 hn1 hx hl (fun _ => by omega)
        · exact bin_cat_3 n1 o1 k2 n2 o2 s1 s2 w hs1 hs2 hv1 hv2 x t (Lib.hid hc) hn2 hn1 hx hl (fun _ => by omega)
      · rw [if_neg h75]
        rcases hk with rfl | rfl | rfl
        · exact bin_cmp_1 op n1 o1 k2 n2 o2 s1 s2 w hs1 hs2 hv1 hv2 (by omega) (by omega) x t (Lib.hid hc) hn2 h75 _ (Lib.hid rfl)
        · exact bin_cmp_2 op n1 o1 k2 n2 o2 s1 s2 w hs1 hs2 hv1 hv2 (by omega) (by omega) x t (Lib.hid hc) hn2 h75 _ (Lib.hid rfl)
        · exact bin_cmp_3 op n1 o1 k2 n2 o2 s1 s2 w hs1 hs2 hv1 hv2 (by omega) (by omega) x t (Lib.hid hc) hn2 h75 _ (Lib.hid rfl)
    · rw [if_neg he] at hc
      rw [if_pos he]
      rcases hk with rfl | rfl | rfl
      · exact bin_cverr_1 op n1 o1 k2 n2 o2 s1 s2 w hs1 hs2 hv1 hv2 (by omega) (by omega) er (Lib.hid hc) he hn2
      · exact bin_cverr_2 op n1 o1 k2 n2 o2 s1 s2 w hs1 hs2 hv1 hv2 (by omega) (by omega) er (Lib.hid hc) he hn2
      · exact bin_cverr_3 op n1 o1 k2 n2 o2 s1 s2 w hs1 hs2 hv1 hv2 (by omega) (by omega) er (Lib.hid hc) he hn2
  · rw [if_pos hk]
    exact bin_type op k1 n1 o1 k2 n2 o2 s1 s2 w hs1 hs2 hv1 hv2 (by omega) (by omega) (by omega)
end Go.Proofs.YteifmjhkedhomaaDoor
