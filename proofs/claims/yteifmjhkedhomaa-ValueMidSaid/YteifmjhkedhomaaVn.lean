/- paired and Binary, of the reference: the walks. -/
import Derived.Test.YteifmjhkedhomaaVm
namespace Go.Proofs.Yteifmjhkedhomaa
open Go.RowKit
set_option linter.unusedVariables false
attribute [local go_sem] ByteArray.mk_append_mk bs_get bs_cut bs_end conv1 conv2

theorem ret_pr (tmps : Array Value) (w : World) (b : Nat) (c0 c1 c2 c3 : Value) (h2 : tmps.getD 6 undef = .pointer (some ⟨b, 0, none⟩)) (hb : w.heap[b]? = some (.cells #[c0, c1, c2, c3] 24 (0, 0))) :
    (results Try.f23 tmps).run Try.prog w = .ok (.tuple #[.agg #[c0, c1, c2, c3], tmps.getD 7 undef]) w := by
  obtain ⟨e0, e1, e2, e3⟩ := cells4 hb
  have h2' : tmps[6]?.getD undef = .pointer (some ⟨b, 0, none⟩) := by rw [← h2]; simp
  simp [results]
  go_simp
theorem ret_rbin (tmps : Array Value) (w : World) (b : Nat) (c0 c1 c2 c3 : Value) (h2 : tmps.getD 6 undef = .pointer (some ⟨b, 0, none⟩)) (hb : w.heap[b]? = some (.cells #[c0, c1, c2, c3] 24 (0, 0))) :
    (results Try.f7 tmps).run Try.prog w = .ok (.tuple #[.agg #[c0, c1, c2, c3], tmps.getD 7 undef]) w := by
  obtain ⟨e0, e1, e2, e3⟩ := cells4 hb
  have h2' : tmps[6]?.getD undef = .pointer (some ⟨b, 0, none⟩) := by rw [← h2]; simp
  simp [results]
  go_simp
/-- The second box is written anew. -/
theorem B2.put2 {w wr : World} {o1 : Obj} {c0 c1 c2 c3 : Value} {t : Nat} (h : B2 w wr o1 (.cells #[c0, c1, c2, c3] t (0, 0))) (a0 a1 a2 a3 : Value) :
    B2 w ((((wr.setCell ⟨w.heap.size + 1, 0, none⟩ a0).setCell ⟨w.heap.size + 1, 1, none⟩ a1).setCell ⟨w.heap.size + 1, 2, none⟩ a2).setCell ⟨w.heap.size + 1, 3, none⟩ a3) o1 (.cells #[a0, a1, a2, a3] t (0, 0)) := by
  refine ⟨⟨?_, put4 h.1.2.1 _ _ _ _, ?_⟩, bel4 h.2 (by omega) _ _ _ _⟩
  · exact blk_other (blk_other (blk_other (blk_other h.1.1 _ _ (by simp)) _ _ (by simp)) _ _ (by simp)) _ _ (by simp)
  · exact blk_other (blk_other (blk_other (blk_other h.1.2.2 _ _ (by simp)) _ _ (by simp)) _ _ (by simp)) _ _ (by simp)
set_option maxRecDepth 100000 in
set_option maxHeartbeats 2000000 in
theorem pr_type (op k1 n1 o1 k2 n2 o2 : Int) (s1 s2 : List UInt8) (w : World) (hs1 : s1.length ≤ 9223372036854774000) (hs2 : s2.length ≤ 9223372036854774000) (hk : k1 ≠ 1 ∧ k1 ≠ 2 ∧ k1 ≠ 3) : Calls Try.prog 23 #[.int .i64 op, valV k1 n1 s1 o1, valV k2 n2 s2 o2] w (CvPost w (badV 10)) := by
  have m1 : (k1 != 1) = true := by rw [bne_iff_ne]; exact hk.1
  have m2 : (k1 != 2) = true := by rw [bne_iff_ne]; exact hk.2.1
  have m3 : (k1 != 3) = true := by rw [bne_iff_ne]; exact hk.2.2
  clear hk
  have HA := Lib.hid (B2.start w (vObj k1 n1 s1 o1) (vObj k2 n2 s2 o2))
  (obtain ⟨a0, a1, a2, a3⟩ := cells4 HA.out.1.1; obtain ⟨b0, b1, b2, b3⟩ := cells4 HA.out.1.2.1)
  go_enter Try.func23, Try.ntmps23
  go_wp2_with fail
  exact bodyPost_ret (ret_pr _ _ _ _ _ _ _ rfl HA.out.1.2.2) rfl ⟨rfl, HA.out.2⟩
set_option maxRecDepth 100000 in
set_option maxHeartbeats 2000000 in
theorem pr_cverr_1 (op n1 o1 k2 n2 o2 : Int) (s1 s2 : List UInt8) (w : World) (hs1 : s1.length ≤ 9223372036854774000) (hs2 : s2.length ≤ 9223372036854774000) (er : Int) (HC : Hid (cvV k2 n2 s2 o2 1 = badV er)) (h2 : er ≠ 0) (hn2 : 0 ≤ n2) (HN2 : Hid (n2.toNat < 2 ^ 64)) : Calls Try.prog 23 #[.int .i64 op, valV 1 n1 s1 o1, valV k2 n2 s2 o2] w (CvPost w (badV er)) := by
  have he' : (er != 0) = true := by rw [bne_iff_ne]; exact h2
  clear h2
  have HA := Lib.hid (B2.start w (vObj 1 n1 s1 o1) (vObj k2 n2 s2 o2))
  (obtain ⟨a0, a1, a2, a3⟩ := cells4 HA.out.1.1; obtain ⟨b0, b1, b2, b3⟩ := cells4 HA.out.1.2.1)
  go_enter Try.func23, Try.ntmps23
  go_wp2_with fail
  ((with_reducible refine (rconvert_any k2 n2 o2 _ s2 _ (by omega) hn2 HN2).mono ?_))
  rintro e wx ⟨rfl, hb⟩
  rw [HC.out]
  unfold badV
  (have HA2 := HA; clear HA; have HA := Lib.hid (HA2.out.below hb); clear HA2 hb; clear a0 a1 a2 a3 b0 b1 b2 b3; obtain ⟨a0, a1, a2, a3⟩ := cells4 HA.out.1.1; obtain ⟨b0, b1, b2, b3⟩ := cells4 HA.out.1.2.1)
  (have g0 := free3 HA.out.1.2.1 0; have g1 := free3 HA.out.1.2.1 1; have g2 := free3 HA.out.1.2.1 2; have g3 := free3 HA.out.1.2.1 3)
  go_upto_region 4 with fail
  have HA3 := Lib.hid (HA.out.put2 (.int .i64 0) (.int .u64 0) (.string ⟨([] : List UInt8).toArray⟩) (.int .i64 0))
  clear HA g0 g1 g2 g3
  clear a0 a1 a2 a3 b0 b1 b2 b3
  generalize ((((wx.setCell ⟨w.heap.size + 1, 0, none⟩ (.int .i64 0)).setCell ⟨w.heap.size + 1, 1, none⟩ (.int .u64 0)).setCell ⟨w.heap.size + 1, 2, none⟩ (.string ⟨([] : List UInt8).toArray⟩)).setCell ⟨w.heap.size + 1, 3, none⟩ (.int .i64 0)) = w3 at *
  have HA := HA3
  clear HA3
  (obtain ⟨a0, a1, a2, a3⟩ := cells4 HA.out.1.1; obtain ⟨b0, b1, b2, b3⟩ := cells4 HA.out.1.2.1)
  (have hn := HA.out.1.2.2; obtain ⟨c0, c1, c2, c3⟩ := cells4 hn; have f0 := free3 hn 0; have f1 := free3 hn 1; have f2 := free3 hn 2; have f3 := free3 hn 3; clear hn)
  go_wp2_with fail
  exact bodyPost_ret (ret_pr _ _ _ _ _ _ _ rfl (put4 HA.out.1.2.2 _ _ _ _)) rfl ⟨by rfl, bel4 HA.out.2 (by omega) _ _ _ _⟩
set_option maxRecDepth 100000 in
set_option maxHeartbeats 2000000 in
theorem pr_72_1_true (n1 o1 k2 n2 o2 : Int) (s1 s2 : List UInt8) (w : World) (hs1 : s1.length ≤ 9223372036854774000) (hs2 : s2.length ≤ 9223372036854774000) (n3 : Int) (s3 : List UInt8) (HC : Hid (cvV k2 n2 s2 o2 1 = (valV 1 n3 s3 0, 0))) (hn2 : 0 ≤ n2) (HN2 : Hid (n2.toNat < 2 ^ 64)) (hE : (n1 == n3) = true) : Calls Try.prog 23 #[.int .i64 72, valV 1 n1 s1 o1, valV k2 n2 s2 o2] w (CvPost w (valV 1 18446744073709551615 [] 0, 0)) := by
  have HA := Lib.hid (B2.start w (vObj 1 n1 s1 o1) (vObj k2 n2 s2 o2))
  (obtain ⟨a0, a1, a2, a3⟩ := cells4 HA.out.1.1; obtain ⟨b0, b1, b2, b3⟩ := cells4 HA.out.1.2.1)
  go_enter Try.func23, Try.ntmps23
  go_wp2_with fail
  ((with_reducible refine (rconvert_any k2 n2 o2 _ s2 _ (by omega) hn2 HN2).mono ?_))
  rintro e wx ⟨rfl, hb⟩
  rw [HC.out]
  (have HA2 := HA; clear HA; have HA := Lib.hid (HA2.out.below hb); clear HA2 hb; clear a0 a1 a2 a3 b0 b1 b2 b3; obtain ⟨a0, a1, a2, a3⟩ := cells4 HA.out.1.1; obtain ⟨b0, b1, b2, b3⟩ := cells4 HA.out.1.2.1)
  (have g0 := free3 HA.out.1.2.1 0; have g1 := free3 HA.out.1.2.1 1; have g2 := free3 HA.out.1.2.1 2; have g3 := free3 HA.out.1.2.1 3)
  go_upto_region 4 with fail
  have HA3 := Lib.hid (HA.out.put2 (.int .i64 1) (.int .u64 n3) (.string ⟨s3.toArray⟩) (.int .i64 0))
  clear HA g0 g1 g2 g3
  clear a0 a1 a2 a3 b0 b1 b2 b3
  generalize ((((wx.setCell ⟨w.heap.size + 1, 0, none⟩ (.int .i64 1)).setCell ⟨w.heap.size + 1, 1, none⟩ (.int .u64 n3)).setCell ⟨w.heap.size + 1, 2, none⟩ (.string ⟨s3.toArray⟩)).setCell ⟨w.heap.size + 1, 3, none⟩ (.int .i64 0)) = w3 at *
  have HA := HA3
  clear HA3
  (obtain ⟨a0, a1, a2, a3⟩ := cells4 HA.out.1.1; obtain ⟨b0, b1, b2, b3⟩ := cells4 HA.out.1.2.1)
  go_wp2_with fail
  ((with_reducible refine (bool_true _).mono ?_))
  rintro e wx ⟨rfl, hb⟩
  (have HA2 := HA; clear HA; have HA := Lib.hid (HA2.out.below hb); clear HA2 hb; clear a0 a1 a2 a3 b0 b1 b2 b3; obtain ⟨a0, a1, a2, a3⟩ := cells4 HA.out.1.1; obtain ⟨b0, b1, b2, b3⟩ := cells4 HA.out.1.2.1)
  (have hn := HA.out.1.2.2; obtain ⟨c0, c1, c2, c3⟩ := cells4 hn; have f0 := free3 hn 0; have f1 := free3 hn 1; have f2 := free3 hn 2; have f3 := free3 hn 3; clear hn)
  go_wp2_with fail
  exact bodyPost_ret (ret_pr _ _ _ _ _ _ _ rfl (put4 HA.out.1.2.2 _ _ _ _)) rfl ⟨by rfl, bel4 HA.out.2 (by omega) _ _ _ _⟩
set_option maxRecDepth 100000 in
set_option maxHeartbeats 2000000 in
theorem pr_72_1_false (n1 o1 k2 n2 o2 : Int) (s1 s2 : List UInt8) (w : World) (hs1 : s1.length ≤ 9223372036854774000) (hs2 : s2.length ≤ 9223372036854774000) (n3 : Int) (s3 : List UInt8) (HC : Hid (cvV k2 n2 s2 o2 1 = (valV 1 n3 s3 0, 0))) (hn2 : 0 ≤ n2) (HN2 : Hid (n2.toNat < 2 ^ 64)) (hE : (n1 == n3) = false) : Calls Try.prog 23 #[.int .i64 72, valV 1 n1 s1 o1, valV k2 n2 s2 o2] w (CvPost w (valV 1 0 [] 0, 0)) := by
  have HA := Lib.hid (B2.start w (vObj 1 n1 s1 o1) (vObj k2 n2 s2 o2))
  (obtain ⟨a0, a1, a2, a3⟩ := cells4 HA.out.1.1; obtain ⟨b0, b1, b2, b3⟩ := cells4 HA.out.1.2.1)
  go_enter Try.func23, Try.ntmps23
  go_wp2_with fail
  ((with_reducible refine (rconvert_any k2 n2 o2 _ s2 _ (by omega) hn2 HN2).mono ?_))
  rintro e wx ⟨rfl, hb⟩
  rw [HC.out]
  (have HA2 := HA; clear HA; have HA := Lib.hid (HA2.out.below hb); clear HA2 hb; clear a0 a1 a2 a3 b0 b1 b2 b3; obtain ⟨a0, a1, a2, a3⟩ := cells4 HA.out.1.1; obtain ⟨b0, b1, b2, b3⟩ := cells4 HA.out.1.2.1)
  (have g0 := free3 HA.out.1.2.1 0; have g1 := free3 HA.out.1.2.1 1; have g2 := free3 HA.out.1.2.1 2; have g3 := free3 HA.out.1.2.1 3)
  go_upto_region 4 with fail
  have HA3 := Lib.hid (HA.out.put2 (.int .i64 1) (.int .u64 n3) (.string ⟨s3.toArray⟩) (.int .i64 0))
  clear HA g0 g1 g2 g3
  clear a0 a1 a2 a3 b0 b1 b2 b3
  generalize ((((wx.setCell ⟨w.heap.size + 1, 0, none⟩ (.int .i64 1)).setCell ⟨w.heap.size + 1, 1, none⟩ (.int .u64 n3)).setCell ⟨w.heap.size + 1, 2, none⟩ (.string ⟨s3.toArray⟩)).setCell ⟨w.heap.size + 1, 3, none⟩ (.int .i64 0)) = w3 at *
  have HA := HA3
  clear HA3
  (obtain ⟨a0, a1, a2, a3⟩ := cells4 HA.out.1.1; obtain ⟨b0, b1, b2, b3⟩ := cells4 HA.out.1.2.1)
  go_wp2_with fail
  ((with_reducible refine (bool_false _).mono ?_))
  rintro e wx ⟨rfl, hb⟩
  (have HA2 := HA; clear HA; have HA := Lib.hid (HA2.out.below hb); clear HA2 hb; clear a0 a1 a2 a3 b0 b1 b2 b3; obtain ⟨a0, a1, a2, a3⟩ := cells4 HA.out.1.1; obtain ⟨b0, b1, b2, b3⟩ := cells4 HA.out.1.2.1)
  (have hn := HA.out.1.2.2; obtain ⟨c0, c1, c2, c3⟩ := cells4 hn; have f0 := free3 hn 0; have f1 := free3 hn 1; have f2 := free3 hn 2; have f3 := free3 hn 3; clear hn)
  go_wp2_with fail
  exact bodyPost_ret (ret_pr _ _ _ _ _ _ _ rfl (put4 HA.out.1.2.2 _ _ _ _)) rfl ⟨by rfl, bel4 HA.out.2 (by omega) _ _ _ _⟩
set_option maxRecDepth 100000 in
set_option maxHeartbeats 2000000 in
theorem pr_73_1_true (n1 o1 k2 n2 o2 : Int) (s1 s2 : List UInt8) (w : World) (hs1 : s1.length ≤ 9223372036854774000) (hs2 : s2.length ≤ 9223372036854774000) (n3 : Int) (s3 : List UInt8) (HC : Hid (cvV k2 n2 s2 o2 1 = (valV 1 n3 s3 0, 0))) (hn2 : 0 ≤ n2) (HN2 : Hid (n2.toNat < 2 ^ 64)) (hE : decide (n1 < n3) = true) : Calls Try.prog 23 #[.int .i64 73, valV 1 n1 s1 o1, valV k2 n2 s2 o2] w (CvPost w (valV 1 18446744073709551615 [] 0, 0)) := by
  have HA := Lib.hid (B2.start w (vObj 1 n1 s1 o1) (vObj k2 n2 s2 o2))
  (obtain ⟨a0, a1, a2, a3⟩ := cells4 HA.out.1.1; obtain ⟨b0, b1, b2, b3⟩ := cells4 HA.out.1.2.1)
  go_enter Try.func23, Try.ntmps23
  go_wp2_with fail
  ((with_reducible refine (rconvert_any k2 n2 o2 _ s2 _ (by omega) hn2 HN2).mono ?_))
  rintro e wx ⟨rfl, hb⟩
  rw [HC.out]
  (have HA2 := HA; clear HA; have HA := Lib.hid (HA2.out.below hb); clear HA2 hb; clear a0 a1 a2 a3 b0 b1 b2 b3; obtain ⟨a0, a1, a2, a3⟩ := cells4 HA.out.1.1; obtain ⟨b0, b1, b2, b3⟩ := cells4 HA.out.1.2.1)
  (have g0 := free3 HA.out.1.2.1 0; have g1 := free3 HA.out.1.2.1 1; have g2 := free3 HA.out.1.2.1 2; have g3 := free3 HA.out.1.2.1 3)
  go_upto_region 4 with fail
  have HA3 := Lib.hid (HA.out.put2 (.int .i64 1) (.int .u64 n3) (.string ⟨s3.toArray⟩) (.int .i64 0))
  clear HA g0 g1 g2 g3
  clear a0 a1 a2 a3 b0 b1 b2 b3
  generalize ((((wx.setCell ⟨w.heap.size + 1, 0, none⟩ (.int .i64 1)).setCell ⟨w.heap.size + 1, 1, none⟩ (.int .u64 n3)).setCell ⟨w.heap.size + 1, 2, none⟩ (.string ⟨s3.toArray⟩)).setCell ⟨w.heap.size + 1, 3, none⟩ (.int .i64 0)) = w3 at *
  have HA := HA3
  clear HA3
  (obtain ⟨a0, a1, a2, a3⟩ := cells4 HA.out.1.1; obtain ⟨b0, b1, b2, b3⟩ := cells4 HA.out.1.2.1)
  go_wp2_with fail
  ((with_reducible refine (bool_true _).mono ?_))
  rintro e wx ⟨rfl, hb⟩
  (have HA2 := HA; clear HA; have HA := Lib.hid (HA2.out.below hb); clear HA2 hb; clear a0 a1 a2 a3 b0 b1 b2 b3; obtain ⟨a0, a1, a2, a3⟩ := cells4 HA.out.1.1; obtain ⟨b0, b1, b2, b3⟩ := cells4 HA.out.1.2.1)
  (have hn := HA.out.1.2.2; obtain ⟨c0, c1, c2, c3⟩ := cells4 hn; have f0 := free3 hn 0; have f1 := free3 hn 1; have f2 := free3 hn 2; have f3 := free3 hn 3; clear hn)
  go_wp2_with fail
  exact bodyPost_ret (ret_pr _ _ _ _ _ _ _ rfl (put4 HA.out.1.2.2 _ _ _ _)) rfl ⟨by rfl, bel4 HA.out.2 (by omega) _ _ _ _⟩
set_option maxRecDepth 100000 in
set_option maxHeartbeats 2000000 in
theorem pr_73_1_false (n1 o1 k2 n2 o2 : Int) (s1 s2 : List UInt8) (w : World) (hs1 : s1.length ≤ 9223372036854774000) (hs2 : s2.length ≤ 9223372036854774000) (n3 : Int) (s3 : List UInt8) (HC : Hid (cvV k2 n2 s2 o2 1 = (valV 1 n3 s3 0, 0))) (hn2 : 0 ≤ n2) (HN2 : Hid (n2.toNat < 2 ^ 64)) (hE : decide (n1 < n3) = false) : Calls Try.prog 23 #[.int .i64 73, valV 1 n1 s1 o1, valV k2 n2 s2 o2] w (CvPost w (valV 1 0 [] 0, 0)) := by
  have HA := Lib.hid (B2.start w (vObj 1 n1 s1 o1) (vObj k2 n2 s2 o2))
  (obtain ⟨a0, a1, a2, a3⟩ := cells4 HA.out.1.1; obtain ⟨b0, b1, b2, b3⟩ := cells4 HA.out.1.2.1)
  go_enter Try.func23, Try.ntmps23
  go_wp2_with fail
  ((with_reducible refine (rconvert_any k2 n2 o2 _ s2 _ (by omega) hn2 HN2).mono ?_))
  rintro e wx ⟨rfl, hb⟩
  rw [HC.out]
  (have HA2 := HA; clear HA; have HA := Lib.hid (HA2.out.below hb); clear HA2 hb; clear a0 a1 a2 a3 b0 b1 b2 b3; obtain ⟨a0, a1, a2, a3⟩ := cells4 HA.out.1.1; obtain ⟨b0, b1, b2, b3⟩ := cells4 HA.out.1.2.1)
  (have g0 := free3 HA.out.1.2.1 0; have g1 := free3 HA.out.1.2.1 1; have g2 := free3 HA.out.1.2.1 2; have g3 := free3 HA.out.1.2.1 3)
  go_upto_region 4 with fail
  have HA3 := Lib.hid (HA.out.put2 (.int .i64 1) (.int .u64 n3) (.string ⟨s3.toArray⟩) (.int .i64 0))
  clear HA g0 g1 g2 g3
  clear a0 a1 a2 a3 b0 b1 b2 b3
  generalize ((((wx.setCell ⟨w.heap.size + 1, 0, none⟩ (.int .i64 1)).setCell ⟨w.heap.size + 1, 1, none⟩ (.int .u64 n3)).setCell ⟨w.heap.size + 1, 2, none⟩ (.string ⟨s3.toArray⟩)).setCell ⟨w.heap.size + 1, 3, none⟩ (.int .i64 0)) = w3 at *
  have HA := HA3
  clear HA3
  (obtain ⟨a0, a1, a2, a3⟩ := cells4 HA.out.1.1; obtain ⟨b0, b1, b2, b3⟩ := cells4 HA.out.1.2.1)
  go_wp2_with fail
  ((with_reducible refine (bool_false _).mono ?_))
  rintro e wx ⟨rfl, hb⟩
  (have HA2 := HA; clear HA; have HA := Lib.hid (HA2.out.below hb); clear HA2 hb; clear a0 a1 a2 a3 b0 b1 b2 b3; obtain ⟨a0, a1, a2, a3⟩ := cells4 HA.out.1.1; obtain ⟨b0, b1, b2, b3⟩ := cells4 HA.out.1.2.1)
  (have hn := HA.out.1.2.2; obtain ⟨c0, c1, c2, c3⟩ := cells4 hn; have f0 := free3 hn 0; have f1 := free3 hn 1; have f2 := free3 hn 2; have f3 := free3 hn 3; clear hn)
  go_wp2_with fail
  exact bodyPost_ret (ret_pr _ _ _ _ _ _ _ rfl (put4 HA.out.1.2.2 _ _ _ _)) rfl ⟨by rfl, bel4 HA.out.2 (by omega) _ _ _ _⟩
set_option maxRecDepth 100000 in
set_option maxHeartbeats 2000000 in
theorem pr_74_1_true (n1 o1 k2 n2 o2 : Int) (s1 s2 : List UInt8) (w : World) (hs1 : s1.length ≤ 9223372036854774000) (hs2 : s2.length ≤ 9223372036854774000) (n3 : Int) (s3 : List UInt8) (HC : Hid (cvV k2 n2 s2 o2 1 = (valV 1 n3 s3 0, 0))) (hn2 : 0 ≤ n2) (HN2 : Hid (n2.toNat < 2 ^ 64)) (hE : decide (n3 < n1) = true) : Calls Try.prog 23 #[.int .i64 74, valV 1 n1 s1 o1, valV k2 n2 s2 o2] w (CvPost w (valV 1 18446744073709551615 [] 0, 0)) := by
  have HA := Lib.hid (B2.start w (vObj 1 n1 s1 o1) (vObj k2 n2 s2 o2))
  (obtain ⟨a0, a1, a2, a3⟩ := cells4 HA.out.1.1; obtain ⟨b0, b1, b2, b3⟩ := cells4 HA.out.1.2.1)
  go_enter Try.func23, Try.ntmps23
  go_wp2_with fail
  ((with_reducible refine (rconvert_any k2 n2 o2 _ s2 _ (by omega) hn2 HN2).mono ?_))
  rintro e wx ⟨rfl, hb⟩
  rw [HC.out]
  (have HA2 := HA; clear HA; have HA := Lib.hid (HA2.out.below hb); clear HA2 hb; clear a0 a1 a2 a3 b0 b1 b2 b3; obtain ⟨a0, a1, a2, a3⟩ := cells4 HA.out.1.1; obtain ⟨b0, b1, b2, b3⟩ := cells4 HA.out.1.2.1)
  (have g0 := free3 HA.out.1.2.1 0; have g1 := free3 HA.out.1.2.1 1; have g2 := free3 HA.out.1.2.1 2; have g3 := free3 HA.out.1.2.1 3)
  go_upto_region 4 with fail
  have HA3 := Lib.hid (HA.out.put2 (.int .i64 1) (.int .u64 n3) (.string ⟨s3.toArray⟩) (.int .i64 0))
  clear HA g0 g1 g2 g3
  clear a0 a1 a2 a3 b0 b1 b2 b3
  generalize ((((wx.setCell ⟨w.heap.size + 1, 0, none⟩ (.int .i64 1)).setCell ⟨w.heap.size + 1, 1, none⟩ (.int .u64 n3)).setCell ⟨w.heap.size + 1, 2, none⟩ (.string ⟨s3.toArray⟩)).setCell ⟨w.heap.size + 1, 3, none⟩ (.int .i64 0)) = w3 at *
  have HA := HA3
  clear HA3
  (obtain ⟨a0, a1, a2, a3⟩ := cells4 HA.out.1.1; obtain ⟨b0, b1, b2, b3⟩ := cells4 HA.out.1.2.1)
  go_wp2_with fail
  ((with_reducible refine (bool_true _).mono ?_))
  rintro e wx ⟨rfl, hb⟩
  (have HA2 := HA; clear HA; have HA := Lib.hid (HA2.out.below hb); clear HA2 hb; clear a0 a1 a2 a3 b0 b1 b2 b3; obtain ⟨a0, a1, a2, a3⟩ := cells4 HA.out.1.1; obtain ⟨b0, b1, b2, b3⟩ := cells4 HA.out.1.2.1)
  (have hn := HA.out.1.2.2; obtain ⟨c0, c1, c2, c3⟩ := cells4 hn; have f0 := free3 hn 0; have f1 := free3 hn 1; have f2 := free3 hn 2; have f3 := free3 hn 3; clear hn)
  go_wp2_with fail
  exact bodyPost_ret (ret_pr _ _ _ _ _ _ _ rfl (put4 HA.out.1.2.2 _ _ _ _)) rfl ⟨by rfl, bel4 HA.out.2 (by omega) _ _ _ _⟩
set_option maxRecDepth 100000 in
set_option maxHeartbeats 2000000 in
theorem pr_74_1_false (n1 o1 k2 n2 o2 : Int) (s1 s2 : List UInt8) (w : World) (hs1 : s1.length ≤ 9223372036854774000) (hs2 : s2.length ≤ 9223372036854774000) (n3 : Int) (s3 : List UInt8) (HC : Hid (cvV k2 n2 s2 o2 1 = (valV 1 n3 s3 0, 0))) (hn2 : 0 ≤ n2) (HN2 : Hid (n2.toNat < 2 ^ 64)) (hE : decide (n3 < n1) = false) : Calls Try.prog 23 #[.int .i64 74, valV 1 n1 s1 o1, valV k2 n2 s2 o2] w (CvPost w (valV 1 0 [] 0, 0)) := by
  have HA := Lib.hid (B2.start w (vObj 1 n1 s1 o1) (vObj k2 n2 s2 o2))
  (obtain ⟨a0, a1, a2, a3⟩ := cells4 HA.out.1.1; obtain ⟨b0, b1, b2, b3⟩ := cells4 HA.out.1.2.1)
  go_enter Try.func23, Try.ntmps23
  go_wp2_with fail
  ((with_reducible refine (rconvert_any k2 n2 o2 _ s2 _ (by omega) hn2 HN2).mono ?_))
  rintro e wx ⟨rfl, hb⟩
  rw [HC.out]
  (have HA2 := HA; clear HA; have HA := Lib.hid (HA2.out.below hb); clear HA2 hb; clear a0 a1 a2 a3 b0 b1 b2 b3; obtain ⟨a0, a1, a2, a3⟩ := cells4 HA.out.1.1; obtain ⟨b0, b1, b2, b3⟩ := cells4 HA.out.1.2.1)
  (have g0 := free3 HA.out.1.2.1 0; have g1 := free3 HA.out.1.2.1 1; have g2 := free3 HA.out.1.2.1 2; have g3 := free3 HA.out.1.2.1 3)
  go_upto_region 4 with fail
  have HA3 := Lib.hid (HA.out.put2 (.int .i64 1) (.int .u64 n3) (.string ⟨s3.toArray⟩) (.int .i64 0))
  clear HA g0 g1 g2 g3
  clear a0 a1 a2 a3 b0 b1 b2 b3
  generalize ((((wx.setCell ⟨w.heap.size + 1, 0, none⟩ (.int .i64 1)).setCell ⟨w.heap.size + 1, 1, none⟩ (.int .u64 n3)).setCell ⟨w.heap.size + 1, 2, none⟩ (.string ⟨s3.toArray⟩)).setCell ⟨w.heap.size + 1, 3, none⟩ (.int .i64 0)) = w3 at *
  have HA := HA3
  clear HA3
  (obtain ⟨a0, a1, a2, a3⟩ := cells4 HA.out.1.1; obtain ⟨b0, b1, b2, b3⟩ := cells4 HA.out.1.2.1)
  go_wp2_with fail
  ((with_reducible refine (bool_false _).mono ?_))
  rintro e wx ⟨rfl, hb⟩
  (have HA2 := HA; clear HA; have HA := Lib.hid (HA2.out.below hb); clear HA2 hb; clear a0 a1 a2 a3 b0 b1 b2 b3; obtain ⟨a0, a1, a2, a3⟩ := cells4 HA.out.1.1; obtain ⟨b0, b1, b2, b3⟩ := cells4 HA.out.1.2.1)
  (have hn := HA.out.1.2.2; obtain ⟨c0, c1, c2, c3⟩ := cells4 hn; have f0 := free3 hn 0; have f1 := free3 hn 1; have f2 := free3 hn 2; have f3 := free3 hn 3; clear hn)
  go_wp2_with fail
  exact bodyPost_ret (ret_pr _ _ _ _ _ _ _ rfl (put4 HA.out.1.2.2 _ _ _ _)) rfl ⟨by rfl, bel4 HA.out.2 (by omega) _ _ _ _⟩
set_option maxRecDepth 100000 in
set_option maxHeartbeats 2000000 in
theorem pr_cverr_2 (op n1 o1 k2 n2 o2 : Int) (s1 s2 : List UInt8) (w : World) (hs1 : s1.length ≤ 9223372036854774000) (hs2 : s2.length ≤ 9223372036854774000) (er : Int) (HC : Hid (cvV k2 n2 s2 o2 2 = badV er)) (h2 : er ≠ 0) (hn2 : 0 ≤ n2) (HN2 : Hid (n2.toNat < 2 ^ 64)) : Calls Try.prog 23 #[.int .i64 op, valV 2 n1 s1 o1, valV k2 n2 s2 o2] w (CvPost w (badV er)) := by
  have he' : (er != 0) = true := by rw [bne_iff_ne]; exact h2
  clear h2
  have HA := Lib.hid (B2.start w (vObj 2 n1 s1 o1) (vObj k2 n2 s2 o2))
  (obtain ⟨a0, a1, a2, a3⟩ := cells4 HA.out.1.1; obtain ⟨b0, b1, b2, b3⟩ := cells4 HA.out.1.2.1)
  go_enter Try.func23, Try.ntmps23
  go_wp2_with fail
  ((with_reducible refine (rconvert_any k2 n2 o2 _ s2 _ (by omega) hn2 HN2).mono ?_))
  rintro e wx ⟨rfl, hb⟩
  rw [HC.out]
  unfold badV
  (have HA2 := HA; clear HA; have HA := Lib.hid (HA2.out.below hb); clear HA2 hb; clear a0 a1 a2 a3 b0 b1 b2 b3; obtain ⟨a0, a1, a2, a3⟩ := cells4 HA.out.1.1; obtain ⟨b0, b1, b2, b3⟩ := cells4 HA.out.1.2.1)
  (have g0 := free3 HA.out.1.2.1 0; have g1 := free3 HA.out.1.2.1 1; have g2 := free3 HA.out.1.2.1 2; have g3 := free3 HA.out.1.2.1 3)
  go_upto_region 4 with fail
  have HA3 := Lib.hid (HA.out.put2 (.int .i64 0) (.int .u64 0) (.string ⟨([] : List UInt8).toArray⟩) (.int .i64 0))
  clear HA g0 g1 g2 g3
  clear a0 a1 a2 a3 b0 b1 b2 b3
  generalize ((((wx.setCell ⟨w.heap.size + 1, 0, none⟩ (.int .i64 0)).setCell ⟨w.heap.size + 1, 1, none⟩ (.int .u64 0)).setCell ⟨w.heap.size + 1, 2, none⟩ (.string ⟨([] : List UInt8).toArray⟩)).setCell ⟨w.heap.size + 1, 3, none⟩ (.int .i64 0)) = w3 at *
  have HA := HA3
  clear HA3
  (obtain ⟨a0, a1, a2, a3⟩ := cells4 HA.out.1.1; obtain ⟨b0, b1, b2, b3⟩ := cells4 HA.out.1.2.1)
  (have hn := HA.out.1.2.2; obtain ⟨c0, c1, c2, c3⟩ := cells4 hn; have f0 := free3 hn 0; have f1 := free3 hn 1; have f2 := free3 hn 2; have f3 := free3 hn 3; clear hn)
  go_wp2_with fail
  exact bodyPost_ret (ret_pr _ _ _ _ _ _ _ rfl (put4 HA.out.1.2.2 _ _ _ _)) rfl ⟨by rfl, bel4 HA.out.2 (by omega) _ _ _ _⟩
set_option maxRecDepth 100000 in
set_option maxHeartbeats 2000000 in
theorem pr_72_2_true (n1 o1 k2 n2 o2 : Int) (s1 s2 : List UInt8) (w : World) (hs1 : s1.length ≤ 9223372036854774000) (hs2 : s2.length ≤ 9223372036854774000) (n3 : Int) (s3 : List UInt8) (HC : Hid (cvV k2 n2 s2 o2 2 = (valV 2 n3 s3 0, 0))) (hn2 : 0 ≤ n2) (HN2 : Hid (n2.toNat < 2 ^ 64)) (hE : (s1 == s3) = true) : Calls Try.prog 23 #[.int .i64 72, valV 2 n1 s1 o1, valV k2 n2 s2 o2] w (CvPost w (valV 1 18446744073709551615 [] 0, 0)) := by
  have HA := Lib.hid (B2.start w (vObj 2 n1 s1 o1) (vObj k2 n2 s2 o2))
  (obtain ⟨a0, a1, a2, a3⟩ := cells4 HA.out.1.1; obtain ⟨b0, b1, b2, b3⟩ := cells4 HA.out.1.2.1)
  go_enter Try.func23, Try.ntmps23
  go_wp2_with fail
  ((with_reducible refine (rconvert_any k2 n2 o2 _ s2 _ (by omega) hn2 HN2).mono ?_))
  rintro e wx ⟨rfl, hb⟩
  rw [HC.out]
  (have HA2 := HA; clear HA; have HA := Lib.hid (HA2.out.below hb); clear HA2 hb; clear a0 a1 a2 a3 b0 b1 b2 b3; obtain ⟨a0, a1, a2, a3⟩ := cells4 HA.out.1.1; obtain ⟨b0, b1, b2, b3⟩ := cells4 HA.out.1.2.1)
  (have g0 := free3 HA.out.1.2.1 0; have g1 := free3 HA.out.1.2.1 1; have g2 := free3 HA.out.1.2.1 2; have g3 := free3 HA.out.1.2.1 3)
  go_upto_region 4 with fail
  have HA3 := Lib.hid (HA.out.put2 (.int .i64 2) (.int .u64 n3) (.string ⟨s3.toArray⟩) (.int .i64 0))
  clear HA g0 g1 g2 g3
  clear a0 a1 a2 a3 b0 b1 b2 b3
  generalize ((((wx.setCell ⟨w.heap.size + 1, 0, none⟩ (.int .i64 2)).setCell ⟨w.heap.size + 1, 1, none⟩ (.int .u64 n3)).setCell ⟨w.heap.size + 1, 2, none⟩ (.string ⟨s3.toArray⟩)).setCell ⟨w.heap.size + 1, 3, none⟩ (.int .i64 0)) = w3 at *
  have HA := HA3
  clear HA3
  (obtain ⟨a0, a1, a2, a3⟩ := cells4 HA.out.1.1; obtain ⟨b0, b1, b2, b3⟩ := cells4 HA.out.1.2.1)
  go_wp2_with fail
  ((with_reducible refine (bool_true _).mono ?_))
  rintro e wx ⟨rfl, hb⟩
  (have HA2 := HA; clear HA; have HA := Lib.hid (HA2.out.below hb); clear HA2 hb; clear a0 a1 a2 a3 b0 b1 b2 b3; obtain ⟨a0, a1, a2, a3⟩ := cells4 HA.out.1.1; obtain ⟨b0, b1, b2, b3⟩ := cells4 HA.out.1.2.1)
  (have hn := HA.out.1.2.2; obtain ⟨c0, c1, c2, c3⟩ := cells4 hn; have f0 := free3 hn 0; have f1 := free3 hn 1; have f2 := free3 hn 2; have f3 := free3 hn 3; clear hn)
  go_wp2_with fail
  exact bodyPost_ret (ret_pr _ _ _ _ _ _ _ rfl (put4 HA.out.1.2.2 _ _ _ _)) rfl ⟨by rfl, bel4 HA.out.2 (by omega) _ _ _ _⟩
set_option maxRecDepth 100000 in
set_option maxHeartbeats 2000000 in
theorem pr_72_2_false (n1 o1 k2 n2 o2 : Int) (s1 s2 : List UInt8) (w : World) (hs1 : s1.length ≤ 9223372036854774000) (hs2 : s2.length ≤ 9223372036854774000) (n3 : Int) (s3 : List UInt8) (HC : Hid (cvV k2 n2 s2 o2 2 = (valV 2 n3 s3 0, 0))) (hn2 : 0 ≤ n2) (HN2 : Hid (n2.toNat < 2 ^ 64)) (hE : (s1 == s3) = false) : Calls Try.prog 23 #[.int .i64 72, valV 2 n1 s1 o1, valV k2 n2 s2 o2] w (CvPost w (valV 1 0 [] 0, 0)) := by
  have HA := Lib.hid (B2.start w (vObj 2 n1 s1 o1) (vObj k2 n2 s2 o2))
  (obtain ⟨a0, a1, a2, a3⟩ := cells4 HA.out.1.1; obtain ⟨b0, b1, b2, b3⟩ := cells4 HA.out.1.2.1)
  go_enter Try.func23, Try.ntmps23
  go_wp2_with fail
  ((with_reducible refine (rconvert_any k2 n2 o2 _ s2 _ (by omega) hn2 HN2).mono ?_))
  rintro e wx ⟨rfl, hb⟩
  rw [HC.out]
  (have HA2 := HA; clear HA; have HA := Lib.hid (HA2.out.below hb); clear HA2 hb; clear a0 a1 a2 a3 b0 b1 b2 b3; obtain ⟨a0, a1, a2, a3⟩ := cells4 HA.out.1.1; obtain ⟨b0, b1, b2, b3⟩ := cells4 HA.out.1.2.1)
  (have g0 := free3 HA.out.1.2.1 0; have g1 := free3 HA.out.1.2.1 1; have g2 := free3 HA.out.1.2.1 2; have g3 := free3 HA.out.1.2.1 3)
  go_upto_region 4 with fail
  have HA3 := Lib.hid (HA.out.put2 (.int .i64 2) (.int .u64 n3) (.string ⟨s3.toArray⟩) (.int .i64 0))
  clear HA g0 g1 g2 g3
  clear a0 a1 a2 a3 b0 b1 b2 b3
  generalize ((((wx.setCell ⟨w.heap.size + 1, 0, none⟩ (.int .i64 2)).setCell ⟨w.heap.size + 1, 1, none⟩ (.int .u64 n3)).setCell ⟨w.heap.size + 1, 2, none⟩ (.string ⟨s3.toArray⟩)).setCell ⟨w.heap.size + 1, 3, none⟩ (.int .i64 0)) = w3 at *
  have HA := HA3
  clear HA3
  (obtain ⟨a0, a1, a2, a3⟩ := cells4 HA.out.1.1; obtain ⟨b0, b1, b2, b3⟩ := cells4 HA.out.1.2.1)
  go_wp2_with fail
  ((with_reducible refine (bool_false _).mono ?_))
  rintro e wx ⟨rfl, hb⟩
  (have HA2 := HA; clear HA; have HA := Lib.hid (HA2.out.below hb); clear HA2 hb; clear a0 a1 a2 a3 b0 b1 b2 b3; obtain ⟨a0, a1, a2, a3⟩ := cells4 HA.out.1.1; obtain ⟨b0, b1, b2, b3⟩ := cells4 HA.out.1.2.1)
  (have hn := HA.out.1.2.2; obtain ⟨c0, c1, c2, c3⟩ := cells4 hn; have f0 := free3 hn 0; have f1 := free3 hn 1; have f2 := free3 hn 2; have f3 := free3 hn 3; clear hn)
  go_wp2_with fail
  exact bodyPost_ret (ret_pr _ _ _ _ _ _ _ rfl (put4 HA.out.1.2.2 _ _ _ _)) rfl ⟨by rfl, bel4 HA.out.2 (by omega) _ _ _ _⟩
set_option maxRecDepth 100000 in
set_option maxHeartbeats 2000000 in
theorem pr_73_2_true (n1 o1 k2 n2 o2 : Int) (s1 s2 : List UInt8) (w : World) (hs1 : s1.length ≤ 9223372036854774000) (hs2 : s2.length ≤ 9223372036854774000) (n3 : Int) (s3 : List UInt8) (HC : Hid (cvV k2 n2 s2 o2 2 = (valV 2 n3 s3 0, 0))) (hn2 : 0 ≤ n2) (HN2 : Hid (n2.toNat < 2 ^ 64)) (hE : Op.bytesLess s1 s3 = true) : Calls Try.prog 23 #[.int .i64 73, valV 2 n1 s1 o1, valV k2 n2 s2 o2] w (CvPost w (valV 1 18446744073709551615 [] 0, 0)) := by
  have HA := Lib.hid (B2.start w (vObj 2 n1 s1 o1) (vObj k2 n2 s2 o2))
  (obtain ⟨a0, a1, a2, a3⟩ := cells4 HA.out.1.1; obtain ⟨b0, b1, b2, b3⟩ := cells4 HA.out.1.2.1)
  go_enter Try.func23, Try.ntmps23
  go_wp2_with fail
  ((with_reducible refine (rconvert_any k2 n2 o2 _ s2 _ (by omega) hn2 HN2).mono ?_))
  rintro e wx ⟨rfl, hb⟩
  rw [HC.out]
  (have HA2 := HA; clear HA; have HA := Lib.hid (HA2.out.below hb); clear HA2 hb; clear a0 a1 a2 a3 b0 b1 b2 b3; obtain ⟨a0, a1, a2, a3⟩ := cells4 HA.out.1.1; obtain ⟨b0, b1, b2, b3⟩ := cells4 HA.out.1.2.1)
  (have g0 := free3 HA.out.1.2.1 0; have g1 := free3 HA.out.1.2.1 1; have g2 := free3 HA.out.1.2.1 2; have g3 := free3 HA.out.1.2.1 3)
  go_upto_region 4 with fail
  have HA3 := Lib.hid (HA.out.put2 (.int .i64 2) (.int .u64 n3) (.string ⟨s3.toArray⟩) (.int .i64 0))
  clear HA g0 g1 g2 g3
  clear a0 a1 a2 a3 b0 b1 b2 b3
  generalize ((((wx.setCell ⟨w.heap.size + 1, 0, none⟩ (.int .i64 2)).setCell ⟨w.heap.size + 1, 1, none⟩ (.int .u64 n3)).setCell ⟨w.heap.size + 1, 2, none⟩ (.string ⟨s3.toArray⟩)).setCell ⟨w.heap.size + 1, 3, none⟩ (.int .i64 0)) = w3 at *
  have HA := HA3
  clear HA3
  (obtain ⟨a0, a1, a2, a3⟩ := cells4 HA.out.1.1; obtain ⟨b0, b1, b2, b3⟩ := cells4 HA.out.1.2.1)
  go_wp2_with fail
  ((with_reducible refine (bool_true _).mono ?_))
  rintro e wx ⟨rfl, hb⟩
  (have HA2 := HA; clear HA; have HA := Lib.hid (HA2.out.below hb); clear HA2 hb; clear a0 a1 a2 a3 b0 b1 b2 b3; obtain ⟨a0, a1, a2, a3⟩ := cells4 HA.out.1.1; obtain ⟨b0, b1, b2, b3⟩ := cells4 HA.out.1.2.1)
  (have hn := HA.out.1.2.2; obtain ⟨c0, c1, c2, c3⟩ := cells4 hn; have f0 := free3 hn 0; have f1 := free3 hn 1; have f2 := free3 hn 2; have f3 := free3 hn 3; clear hn)
  go_wp2_with fail
  exact bodyPost_ret (ret_pr _ _ _ _ _ _ _ rfl (put4 HA.out.1.2.2 _ _ _ _)) rfl ⟨by rfl, bel4 HA.out.2 (by omega) _ _ _ _⟩
set_option maxRecDepth 100000 in
set_option maxHeartbeats 2000000 in
theorem pr_73_2_false (n1 o1 k2 n2 o2 : Int) (s1 s2 : List UInt8) (w : World) (hs1 : s1.length ≤ 9223372036854774000) (hs2 : s2.length ≤ 9223372036854774000) (n3 : Int) (s3 : List UInt8) (HC : Hid (cvV k2 n2 s2 o2 2 = (valV 2 n3 s3 0, 0))) (hn2 : 0 ≤ n2) (HN2 : Hid (n2.toNat < 2 ^ 64)) (hE : Op.bytesLess s1 s3 = false) : Calls Try.prog 23 #[.int .i64 73, valV 2 n1 s1 o1, valV k2 n2 s2 o2] w (CvPost w (valV 1 0 [] 0, 0)) := by
  have HA := Lib.hid (B2.start w (vObj 2 n1 s1 o1) (vObj k2 n2 s2 o2))
  (obtain ⟨a0, a1, a2, a3⟩ := cells4 HA.out.1.1; obtain ⟨b0, b1, b2, b3⟩ := cells4 HA.out.1.2.1)
  go_enter Try.func23, Try.ntmps23
  go_wp2_with fail
  ((with_reducible refine (rconvert_any k2 n2 o2 _ s2 _ (by omega) hn2 HN2).mono ?_))
  rintro e wx ⟨rfl, hb⟩
  rw [HC.out]
  (have HA2 := HA; clear HA; have HA := Lib.hid (HA2.out.below hb); clear HA2 hb; clear a0 a1 a2 a3 b0 b1 b2 b3; obtain ⟨a0, a1, a2, a3⟩ := cells4 HA.out.1.1; obtain ⟨b0, b1, b2, b3⟩ := cells4 HA.out.1.2.1)
  (have g0 := free3 HA.out.1.2.1 0; have g1 := free3 HA.out.1.2.1 1; have g2 := free3 HA.out.1.2.1 2; have g3 := free3 HA.out.1.2.1 3)
  go_upto_region 4 with fail
  have HA3 := Lib.hid (HA.out.put2 (.int .i64 2) (.int .u64 n3) (.string ⟨s3.toArray⟩) (.int .i64 0))
  clear HA g0 g1 g2 g3
  clear a0 a1 a2 a3 b0 b1 b2 b3
  generalize ((((wx.setCell ⟨w.heap.size + 1, 0, none⟩ (.int .i64 2)).setCell ⟨w.heap.size + 1, 1, none⟩ (.int .u64 n3)).setCell ⟨w.heap.size + 1, 2, none⟩ (.string ⟨s3.toArray⟩)).setCell ⟨w.heap.size + 1, 3, none⟩ (.int .i64 0)) = w3 at *
  have HA := HA3
  clear HA3
  (obtain ⟨a0, a1, a2, a3⟩ := cells4 HA.out.1.1; obtain ⟨b0, b1, b2, b3⟩ := cells4 HA.out.1.2.1)
  go_wp2_with fail
  ((with_reducible refine (bool_false _).mono ?_))
  rintro e wx ⟨rfl, hb⟩
  (have HA2 := HA; clear HA; have HA := Lib.hid (HA2.out.below hb); clear HA2 hb; clear a0 a1 a2 a3 b0 b1 b2 b3; obtain ⟨a0, a1, a2, a3⟩ := cells4 HA.out.1.1; obtain ⟨b0, b1, b2, b3⟩ := cells4 HA.out.1.2.1)
  (have hn := HA.out.1.2.2; obtain ⟨c0, c1, c2, c3⟩ := cells4 hn; have f0 := free3 hn 0; have f1 := free3 hn 1; have f2 := free3 hn 2; have f3 := free3 hn 3; clear hn)
  go_wp2_with fail
  exact bodyPost_ret (ret_pr _ _ _ _ _ _ _ rfl (put4 HA.out.1.2.2 _ _ _ _)) rfl ⟨by rfl, bel4 HA.out.2 (by omega) _ _ _ _⟩
set_option maxRecDepth 100000 in
set_option maxHeartbeats 2000000 in
theorem pr_74_2_true (n1 o1 k2 n2 o2 : Int) (s1 s2 : List UInt8) (w : World) (hs1 : s1.length ≤ 9223372036854774000) (hs2 : s2.length ≤ 9223372036854774000) (n3 : Int) (s3 : List UInt8) (HC : Hid (cvV k2 n2 s2 o2 2 = (valV 2 n3 s3 0, 0))) (hn2 : 0 ≤ n2) (HN2 : Hid (n2.toNat < 2 ^ 64)) (HE : Hid ((!Op.bytesLess s1 s3 && !(s1 == s3)) = true)) : Calls Try.prog 23 #[.int .i64 74, valV 2 n1 s1 o1, valV k2 n2 s2 o2] w (CvPost w (valV 1 18446744073709551615 [] 0, 0)) := by
  have HA := Lib.hid (B2.start w (vObj 2 n1 s1 o1) (vObj k2 n2 s2 o2))
  (obtain ⟨a0, a1, a2, a3⟩ := cells4 HA.out.1.1; obtain ⟨b0, b1, b2, b3⟩ := cells4 HA.out.1.2.1)
  go_enter Try.func23, Try.ntmps23
  go_wp2_with fail
  ((with_reducible refine (rconvert_any k2 n2 o2 _ s2 _ (by omega) hn2 HN2).mono ?_))
  rintro e wx ⟨rfl, hb⟩
  rw [HC.out]
  (have HA2 := HA; clear HA; have HA := Lib.hid (HA2.out.below hb); clear HA2 hb; clear a0 a1 a2 a3 b0 b1 b2 b3; obtain ⟨a0, a1, a2, a3⟩ := cells4 HA.out.1.1; obtain ⟨b0, b1, b2, b3⟩ := cells4 HA.out.1.2.1)
  (have g0 := free3 HA.out.1.2.1 0; have g1 := free3 HA.out.1.2.1 1; have g2 := free3 HA.out.1.2.1 2; have g3 := free3 HA.out.1.2.1 3)
  go_upto_region 4 with fail
  have HA3 := Lib.hid (HA.out.put2 (.int .i64 2) (.int .u64 n3) (.string ⟨s3.toArray⟩) (.int .i64 0))
  clear HA g0 g1 g2 g3
  clear a0 a1 a2 a3 b0 b1 b2 b3
  generalize ((((wx.setCell ⟨w.heap.size + 1, 0, none⟩ (.int .i64 2)).setCell ⟨w.heap.size + 1, 1, none⟩ (.int .u64 n3)).setCell ⟨w.heap.size + 1, 2, none⟩ (.string ⟨s3.toArray⟩)).setCell ⟨w.heap.size + 1, 3, none⟩ (.int .i64 0)) = w3 at *
  have HA := HA3
  clear HA3
  (obtain ⟨a0, a1, a2, a3⟩ := cells4 HA.out.1.1; obtain ⟨b0, b1, b2, b3⟩ := cells4 HA.out.1.2.1)
  go_wp2_with fail
  rw [HE.out]
  ((with_reducible refine (bool_true _).mono ?_))
  rintro e wx ⟨rfl, hb⟩
  (have HA2 := HA; clear HA; have HA := Lib.hid (HA2.out.below hb); clear HA2 hb; clear a0 a1 a2 a3 b0 b1 b2 b3; obtain ⟨a0, a1, a2, a3⟩ := cells4 HA.out.1.1; obtain ⟨b0, b1, b2, b3⟩ := cells4 HA.out.1.2.1)
  (have hn := HA.out.1.2.2; obtain ⟨c0, c1, c2, c3⟩ := cells4 hn; have f0 := free3 hn 0; have f1 := free3 hn 1; have f2 := free3 hn 2; have f3 := free3 hn 3; clear hn)
  go_wp2_with fail
  exact bodyPost_ret (ret_pr _ _ _ _ _ _ _ rfl (put4 HA.out.1.2.2 _ _ _ _)) rfl ⟨by rfl, bel4 HA.out.2 (by omega) _ _ _ _⟩
set_option maxRecDepth 100000 in
set_option maxHeartbeats 2000000 in
theorem pr_74_2_false (n1 o1 k2 n2 o2 : Int) (s1 s2 : List UInt8) (w : World) (hs1 : s1.length ≤ 9223372036854774000) (hs2 : s2.length ≤ 9223372036854774000) (n3 : Int) (s3 : List UInt8) (HC : Hid (cvV k2 n2 s2 o2 2 = (valV 2 n3 s3 0, 0))) (hn2 : 0 ≤ n2) (HN2 : Hid (n2.toNat < 2 ^ 64)) (HE : Hid ((!Op.bytesLess s1 s3 && !(s1 == s3)) = false)) : Calls Try.prog 23 #[.int .i64 74, valV 2 n1 s1 o1, valV k2 n2 s2 o2] w (CvPost w (valV 1 0 [] 0, 0)) := by
  have HA := Lib.hid (B2.start w (vObj 2 n1 s1 o1) (vObj k2 n2 s2 o2))
  (obtain ⟨a0, a1, a2, a3⟩ := cells4 HA.out.1.1; obtain ⟨b0, b1, b2, b3⟩ := cells4 HA.out.1.2.1)
  go_enter Try.func23, Try.ntmps23
  go_wp2_with fail
  ((with_reducible refine (rconvert_any k2 n2 o2 _ s2 _ (by omega) hn2 HN2).mono ?_))
  rintro e wx ⟨rfl, hb⟩
  rw [HC.out]
  (have HA2 := HA; clear HA; have HA := Lib.hid (HA2.out.below hb); clear HA2 hb; clear a0 a1 a2 a3 b0 b1 b2 b3; obtain ⟨a0, a1, a2, a3⟩ := cells4 HA.out.1.1; obtain ⟨b0, b1, b2, b3⟩ := cells4 HA.out.1.2.1)
  (have g0 := free3 HA.out.1.2.1 0; have g1 := free3 HA.out.1.2.1 1; have g2 := free3 HA.out.1.2.1 2; have g3 := free3 HA.out.1.2.1 3)
  go_upto_region 4 with fail
  have HA3 := Lib.hid (HA.out.put2 (.int .i64 2) (.int .u64 n3) (.string ⟨s3.toArray⟩) (.int .i64 0))
  clear HA g0 g1 g2 g3
  clear a0 a1 a2 a3 b0 b1 b2 b3
  generalize ((((wx.setCell ⟨w.heap.size + 1, 0, none⟩ (.int .i64 2)).setCell ⟨w.heap.size + 1, 1, none⟩ (.int .u64 n3)).setCell ⟨w.heap.size + 1, 2, none⟩ (.string ⟨s3.toArray⟩)).setCell ⟨w.heap.size + 1, 3, none⟩ (.int .i64 0)) = w3 at *
  have HA := HA3
  clear HA3
  (obtain ⟨a0, a1, a2, a3⟩ := cells4 HA.out.1.1; obtain ⟨b0, b1, b2, b3⟩ := cells4 HA.out.1.2.1)
  go_wp2_with fail
  rw [HE.out]
  ((with_reducible refine (bool_false _).mono ?_))
  rintro e wx ⟨rfl, hb⟩
  (have HA2 := HA; clear HA; have HA := Lib.hid (HA2.out.below hb); clear HA2 hb; clear a0 a1 a2 a3 b0 b1 b2 b3; obtain ⟨a0, a1, a2, a3⟩ := cells4 HA.out.1.1; obtain ⟨b0, b1, b2, b3⟩ := cells4 HA.out.1.2.1)
  (have hn := HA.out.1.2.2; obtain ⟨c0, c1, c2, c3⟩ := cells4 hn; have f0 := free3 hn 0; have f1 := free3 hn 1; have f2 := free3 hn 2; have f3 := free3 hn 3; clear hn)
  go_wp2_with fail
  exact bodyPost_ret (ret_pr _ _ _ _ _ _ _ rfl (put4 HA.out.1.2.2 _ _ _ _)) rfl ⟨by rfl, bel4 HA.out.2 (by omega) _ _ _ _⟩
set_option maxRecDepth 100000 in
set_option maxHeartbeats 2000000 in
theorem pr_cverr_3 (op n1 o1 k2 n2 o2 : Int) (s1 s2 : List UInt8) (w : World) (hs1 : s1.length ≤ 9223372036854774000) (hs2 : s2.length ≤ 9223372036854774000) (er : Int) (HC : Hid (cvV k2 n2 s2 o2 3 = badV er)) (h2 : er ≠ 0) (hn2 : 0 ≤ n2) (HN2 : Hid (n2.toNat < 2 ^ 64)) : Calls Try.prog 23 #[.int .i64 op, valV 3 n1 s1 o1, valV k2 n2 s2 o2] w (CvPost w (badV er)) := by
  have he' : (er != 0) = true := by rw [bne_iff_ne]; exact h2
  clear h2
  have HA := Lib.hid (B2.start w (vObj 3 n1 s1 o1) (vObj k2 n2 s2 o2))
  (obtain ⟨a0, a1, a2, a3⟩ := cells4 HA.out.1.1; obtain ⟨b0, b1, b2, b3⟩ := cells4 HA.out.1.2.1)
  go_enter Try.func23, Try.ntmps23
  go_wp2_with fail
  ((with_reducible refine (rconvert_any k2 n2 o2 _ s2 _ (by omega) hn2 HN2).mono ?_))
  rintro e wx ⟨rfl, hb⟩
  rw [HC.out]
  unfold badV
  (have HA2 := HA; clear HA; have HA := Lib.hid (HA2.out.below hb); clear HA2 hb; clear a0 a1 a2 a3 b0 b1 b2 b3; obtain ⟨a0, a1, a2, a3⟩ := cells4 HA.out.1.1; obtain ⟨b0, b1, b2, b3⟩ := cells4 HA.out.1.2.1)
  (have g0 := free3 HA.out.1.2.1 0; have g1 := free3 HA.out.1.2.1 1; have g2 := free3 HA.out.1.2.1 2; have g3 := free3 HA.out.1.2.1 3)
  go_upto_region 4 with fail
  have HA3 := Lib.hid (HA.out.put2 (.int .i64 0) (.int .u64 0) (.string ⟨([] : List UInt8).toArray⟩) (.int .i64 0))
  clear HA g0 g1 g2 g3
  clear a0 a1 a2 a3 b0 b1 b2 b3
  generalize ((((wx.setCell ⟨w.heap.size + 1, 0, none⟩ (.int .i64 0)).setCell ⟨w.heap.size + 1, 1, none⟩ (.int .u64 0)).setCell ⟨w.heap.size + 1, 2, none⟩ (.string ⟨([] : List UInt8).toArray⟩)).setCell ⟨w.heap.size + 1, 3, none⟩ (.int .i64 0)) = w3 at *
  have HA := HA3
  clear HA3
  (obtain ⟨a0, a1, a2, a3⟩ := cells4 HA.out.1.1; obtain ⟨b0, b1, b2, b3⟩ := cells4 HA.out.1.2.1)
  (have hn := HA.out.1.2.2; obtain ⟨c0, c1, c2, c3⟩ := cells4 hn; have f0 := free3 hn 0; have f1 := free3 hn 1; have f2 := free3 hn 2; have f3 := free3 hn 3; clear hn)
  go_wp2_with fail
  exact bodyPost_ret (ret_pr _ _ _ _ _ _ _ rfl (put4 HA.out.1.2.2 _ _ _ _)) rfl ⟨by rfl, bel4 HA.out.2 (by omega) _ _ _ _⟩
set_option maxRecDepth 100000 in
set_option maxHeartbeats 2000000 in
theorem pr_72_3_true (n1 o1 k2 n2 o2 : Int) (s1 s2 : List UInt8) (w : World) (hs1 : s1.length ≤ 9223372036854774000) (hs2 : s2.length ≤ 9223372036854774000) (n3 : Int) (s3 : List UInt8) (HC : Hid (cvV k2 n2 s2 o2 3 = (valV 3 n3 s3 0, 0))) (hn2 : 0 ≤ n2) (HN2 : Hid (n2.toNat < 2 ^ 64)) (hE : (s1 == s3) = true) : Calls Try.prog 23 #[.int .i64 72, valV 3 n1 s1 o1, valV k2 n2 s2 o2] w (CvPost w (valV 1 18446744073709551615 [] 0, 0)) := by
  have HA := Lib.hid (B2.start w (vObj 3 n1 s1 o1) (vObj k2 n2 s2 o2))
  (obtain ⟨a0, a1, a2, a3⟩ := cells4 HA.out.1.1; obtain ⟨b0, b1, b2, b3⟩ := cells4 HA.out.1.2.1)
  go_enter Try.func23, Try.ntmps23
  go_wp2_with fail
  ((with_reducible refine (rconvert_any k2 n2 o2 _ s2 _ (by omega) hn2 HN2).mono ?_))
  rintro e wx ⟨rfl, hb⟩
  rw [HC.out]
  (have HA2 := HA; clear HA; have HA := Lib.hid (HA2.out.below hb); clear HA2 hb; clear a0 a1 a2 a3 b0 b1 b2 b3; obtain ⟨a0, a1, a2, a3⟩ := cells4 HA.out.1.1; obtain ⟨b0, b1, b2, b3⟩ := cells4 HA.out.1.2.1)
  (have g0 := free3 HA.out.1.2.1 0; have g1 := free3 HA.out.1.2.1 1; have g2 := free3 HA.out.1.2.1 2; have g3 := free3 HA.out.1.2.1 3)
  go_upto_region 4 with fail
  have HA3 := Lib.hid (HA.out.put2 (.int .i64 3) (.int .u64 n3) (.string ⟨s3.toArray⟩) (.int .i64 0))
  clear HA g0 g1 g2 g3
  clear a0 a1 a2 a3 b0 b1 b2 b3
  generalize ((((wx.setCell ⟨w.heap.size + 1, 0, none⟩ (.int .i64 3)).setCell ⟨w.heap.size + 1, 1, none⟩ (.int .u64 n3)).setCell ⟨w.heap.size + 1, 2, none⟩ (.string ⟨s3.toArray⟩)).setCell ⟨w.heap.size + 1, 3, none⟩ (.int .i64 0)) = w3 at *
  have HA := HA3
  clear HA3
  (obtain ⟨a0, a1, a2, a3⟩ := cells4 HA.out.1.1; obtain ⟨b0, b1, b2, b3⟩ := cells4 HA.out.1.2.1)
  go_wp2_with fail
  ((with_reducible refine (bool_true _).mono ?_))
  rintro e wx ⟨rfl, hb⟩
  (have HA2 := HA; clear HA; have HA := Lib.hid (HA2.out.below hb); clear HA2 hb; clear a0 a1 a2 a3 b0 b1 b2 b3; obtain ⟨a0, a1, a2, a3⟩ := cells4 HA.out.1.1; obtain ⟨b0, b1, b2, b3⟩ := cells4 HA.out.1.2.1)
  (have hn := HA.out.1.2.2; obtain ⟨c0, c1, c2, c3⟩ := cells4 hn; have f0 := free3 hn 0; have f1 := free3 hn 1; have f2 := free3 hn 2; have f3 := free3 hn 3; clear hn)
  go_wp2_with fail
  exact bodyPost_ret (ret_pr _ _ _ _ _ _ _ rfl (put4 HA.out.1.2.2 _ _ _ _)) rfl ⟨by rfl, bel4 HA.out.2 (by omega) _ _ _ _⟩
set_option maxRecDepth 100000 in
set_option maxHeartbeats 2000000 in
theorem pr_72_3_false (n1 o1 k2 n2 o2 : Int) (s1 s2 : List UInt8) (w : World) (hs1 : s1.length ≤ 9223372036854774000) (hs2 : s2.length ≤ 9223372036854774000) (n3 : Int) (s3 : List UInt8) (HC : Hid (cvV k2 n2 s2 o2 3 = (valV 3 n3 s3 0, 0))) (hn2 : 0 ≤ n2) (HN2 : Hid (n2.toNat < 2 ^ 64)) (hE : (s1 == s3) = false) : Calls Try.prog 23 #[.int .i64 72, valV 3 n1 s1 o1, valV k2 n2 s2 o2] w (CvPost w (valV 1 0 [] 0, 0)) := by
  have HA := Lib.hid (B2.start w (vObj 3 n1 s1 o1) (vObj k2 n2 s2 o2))
  (obtain ⟨a0, a1, a2, a3⟩ := cells4 HA.out.1.1; obtain ⟨b0, b1, b2, b3⟩ := cells4 HA.out.1.2.1)
  go_enter Try.func23, Try.ntmps23
  go_wp2_with fail
  ((with_reducible refine (rconvert_any k2 n2 o2 _ s2 _ (by omega) hn2 HN2).mono ?_))
  rintro e wx ⟨rfl, hb⟩
  rw [HC.out]
  (have HA2 := HA; clear HA; have HA := Lib.hid (HA2.out.below hb); clear HA2 hb; clear a0 a1 a2 a3 b0 b1 b2 b3; obtain ⟨a0, a1, a2, a3⟩ := cells4 HA.out.1.1; obtain ⟨b0, b1, b2, b3⟩ := cells4 HA.out.1.2.1)
  (have g0 := free3 HA.out.1.2.1 0; have g1 := free3 HA.out.1.2.1 1; have g2 := free3 HA.out.1.2.1 2; have g3 := free3 HA.out.1.2.1 3)
  go_upto_region 4 with fail
  have HA3 := Lib.hid (HA.out.put2 (.int .i64 3) (.int .u64 n3) (.string ⟨s3.toArray⟩) (.int .i64 0))
  clear HA g0 g1 g2 g3
  clear a0 a1 a2 a3 b0 b1 b2 b3
  generalize ((((wx.setCell ⟨w.heap.size + 1, 0, none⟩ (.int .i64 3)).setCell ⟨w.heap.size + 1, 1, none⟩ (.int .u64 n3)).setCell ⟨w.heap.size + 1, 2, none⟩ (.string ⟨s3.toArray⟩)).setCell ⟨w.heap.size + 1, 3, none⟩ (.int .i64 0)) = w3 at *
  have HA := HA3
  clear HA3
  (obtain ⟨a0, a1, a2, a3⟩ := cells4 HA.out.1.1; obtain ⟨b0, b1, b2, b3⟩ := cells4 HA.out.1.2.1)
  go_wp2_with fail
  ((with_reducible refine (bool_false _).mono ?_))
  rintro e wx ⟨rfl, hb⟩
  (have HA2 := HA; clear HA; have HA := Lib.hid (HA2.out.below hb); clear HA2 hb; clear a0 a1 a2 a3 b0 b1 b2 b3; obtain ⟨a0, a1, a2, a3⟩ := cells4 HA.out.1.1; obtain ⟨b0, b1, b2, b3⟩ := cells4 HA.out.1.2.1)
  (have hn := HA.out.1.2.2; obtain ⟨c0, c1, c2, c3⟩ := cells4 hn; have f0 := free3 hn 0; have f1 := free3 hn 1; have f2 := free3 hn 2; have f3 := free3 hn 3; clear hn)
  go_wp2_with fail
  exact bodyPost_ret (ret_pr _ _ _ _ _ _ _ rfl (put4 HA.out.1.2.2 _ _ _ _)) rfl ⟨by rfl, bel4 HA.out.2 (by omega) _ _ _ _⟩
set_option maxRecDepth 100000 in
set_option maxHeartbeats 2000000 in
theorem pr_73_3_true (n1 o1 k2 n2 o2 : Int) (s1 s2 : List UInt8) (w : World) (hs1 : s1.length ≤ 9223372036854774000) (hs2 : s2.length ≤ 9223372036854774000) (n3 : Int) (s3 : List UInt8) (HC : Hid (cvV k2 n2 s2 o2 3 = (valV 3 n3 s3 0, 0))) (hn2 : 0 ≤ n2) (HN2 : Hid (n2.toNat < 2 ^ 64)) (hE : Op.bytesLess s1 s3 = true) : Calls Try.prog 23 #[.int .i64 73, valV 3 n1 s1 o1, valV k2 n2 s2 o2] w (CvPost w (valV 1 18446744073709551615 [] 0, 0)) := by
  have HA := Lib.hid (B2.start w (vObj 3 n1 s1 o1) (vObj k2 n2 s2 o2))
  (obtain ⟨a0, a1, a2, a3⟩ := cells4 HA.out.1.1; obtain ⟨b0, b1, b2, b3⟩ := cells4 HA.out.1.2.1)
  go_enter Try.func23, Try.ntmps23
  go_wp2_with fail
  ((with_reducible refine (rconvert_any k2 n2 o2 _ s2 _ (by omega) hn2 HN2).mono ?_))
  rintro e wx ⟨rfl, hb⟩
  rw [HC.out]
  (have HA2 := HA; clear HA; have HA := Lib.hid (HA2.out.below hb); clear HA2 hb; clear a0 a1 a2 a3 b0 b1 b2 b3; obtain ⟨a0, a1, a2, a3⟩ := cells4 HA.out.1.1; obtain ⟨b0, b1, b2, b3⟩ := cells4 HA.out.1.2.1)
  (have g0 := free3 HA.out.1.2.1 0; have g1 := free3 HA.out.1.2.1 1; have g2 := free3 HA.out.1.2.1 2; have g3 := free3 HA.out.1.2.1 3)
  go_upto_region 4 with fail
  have HA3 := Lib.hid (HA.out.put2 (.int .i64 3) (.int .u64 n3) (.string ⟨s3.toArray⟩) (.int .i64 0))
  clear HA g0 g1 g2 g3
  clear a0 a1 a2 a3 b0 b1 b2 b3
  generalize ((((wx.setCell ⟨w.heap.size + 1, 0, none⟩ (.int .i64 3)).setCell ⟨w.heap.size + 1, 1, none⟩ (.int .u64 n3)).setCell ⟨w.heap.size + 1, 2, none⟩ (.string ⟨s3.toArray⟩)).setCell ⟨w.heap.size + 1, 3, none⟩ (.int .i64 0)) = w3 at *
  have HA := HA3
  clear HA3
  (obtain ⟨a0, a1, a2, a3⟩ := cells4 HA.out.1.1; obtain ⟨b0, b1, b2, b3⟩ := cells4 HA.out.1.2.1)
  go_wp2_with fail
  ((with_reducible refine (bool_true _).mono ?_))
  rintro e wx ⟨rfl, hb⟩
  (have HA2 := HA; clear HA; have HA := Lib.hid (HA2.out.below hb); clear HA2 hb; clear a0 a1 a2 a3 b0 b1 b2 b3; obtain ⟨a0, a1, a2, a3⟩ := cells4 HA.out.1.1; obtain ⟨b0, b1, b2, b3⟩ := cells4 HA.out.1.2.1)
  (have hn := HA.out.1.2.2; obtain ⟨c0, c1, c2, c3⟩ := cells4 hn; have f0 := free3 hn 0; have f1 := free3 hn 1; have f2 := free3 hn 2; have f3 := free3 hn 3; clear hn)
  go_wp2_with fail
  exact bodyPost_ret (ret_pr _ _ _ _ _ _ _ rfl (put4 HA.out.1.2.2 _ _ _ _)) rfl ⟨by rfl, bel4 HA.out.2 (by omega) _ _ _ _⟩
set_option maxRecDepth 100000 in
set_option maxHeartbeats 2000000 in
theorem pr_73_3_false (n1 o1 k2 n2 o2 : Int) (s1 s2 : List UInt8) (w : World) (hs1 : s1.length ≤ 9223372036854774000) (hs2 : s2.length ≤ 9223372036854774000) (n3 : Int) (s3 : List UInt8) (HC : Hid (cvV k2 n2 s2 o2 3 = (valV 3 n3 s3 0, 0))) (hn2 : 0 ≤ n2) (HN2 : Hid (n2.toNat < 2 ^ 64)) (hE : Op.bytesLess s1 s3 = false) : Calls Try.prog 23 #[.int .i64 73, valV 3 n1 s1 o1, valV k2 n2 s2 o2] w (CvPost w (valV 1 0 [] 0, 0)) := by
  have HA := Lib.hid (B2.start w (vObj 3 n1 s1 o1) (vObj k2 n2 s2 o2))
  (obtain ⟨a0, a1, a2, a3⟩ := cells4 HA.out.1.1; obtain ⟨b0, b1, b2, b3⟩ := cells4 HA.out.1.2.1)
  go_enter Try.func23, Try.ntmps23
  go_wp2_with fail
  ((with_reducible refine (rconvert_any k2 n2 o2 _ s2 _ (by omega) hn2 HN2).mono ?_))
  rintro e wx ⟨rfl, hb⟩
  rw [HC.out]
  (have HA2 := HA; clear HA; have HA := Lib.hid (HA2.out.below hb); clear HA2 hb; clear a0 a1 a2 a3 b0 b1 b2 b3; obtain ⟨a0, a1, a2, a3⟩ := cells4 HA.out.1.1; obtain ⟨b0, b1, b2, b3⟩ := cells4 HA.out.1.2.1)
  (have g0 := free3 HA.out.1.2.1 0; have g1 := free3 HA.out.1.2.1 1; have g2 := free3 HA.out.1.2.1 2; have g3 := free3 HA.out.1.2.1 3)
  go_upto_region 4 with fail
  have HA3 := Lib.hid (HA.out.put2 (.int .i64 3) (.int .u64 n3) (.string ⟨s3.toArray⟩) (.int .i64 0))
  clear HA g0 g1 g2 g3
  clear a0 a1 a2 a3 b0 b1 b2 b3
  generalize ((((wx.setCell ⟨w.heap.size + 1, 0, none⟩ (.int .i64 3)).setCell ⟨w.heap.size + 1, 1, none⟩ (.int .u64 n3)).setCell ⟨w.heap.size + 1, 2, none⟩ (.string ⟨s3.toArray⟩)).setCell ⟨w.heap.size + 1, 3, none⟩ (.int .i64 0)) = w3 at *
  have HA := HA3
  clear HA3
  (obtain ⟨a0, a1, a2, a3⟩ := cells4 HA.out.1.1; obtain ⟨b0, b1, b2, b3⟩ := cells4 HA.out.1.2.1)
  go_wp2_with fail
  ((with_reducible refine (bool_false _).mono ?_))
  rintro e wx ⟨rfl, hb⟩
  (have HA2 := HA; clear HA; have HA := Lib.hid (HA2.out.below hb); clear HA2 hb; clear a0 a1 a2 a3 b0 b1 b2 b3; obtain ⟨a0, a1, a2, a3⟩ := cells4 HA.out.1.1; obtain ⟨b0, b1, b2, b3⟩ := cells4 HA.out.1.2.1)
  (have hn := HA.out.1.2.2; obtain ⟨c0, c1, c2, c3⟩ := cells4 hn; have f0 := free3 hn 0; have f1 := free3 hn 1; have f2 := free3 hn 2; have f3 := free3 hn 3; clear hn)
  go_wp2_with fail
  exact bodyPost_ret (ret_pr _ _ _ _ _ _ _ rfl (put4 HA.out.1.2.2 _ _ _ _)) rfl ⟨by rfl, bel4 HA.out.2 (by omega) _ _ _ _⟩
set_option maxRecDepth 100000 in
set_option maxHeartbeats 2000000 in
theorem pr_74_3_true (n1 o1 k2 n2 o2 : Int) (s1 s2 : List UInt8) (w : World) (hs1 : s1.length ≤ 9223372036854774000) (hs2 : s2.length ≤ 9223372036854774000) (n3 : Int) (s3 : List UInt8) (HC : Hid (cvV k2 n2 s2 o2 3 = (valV 3 n3 s3 0, 0))) (hn2 : 0 ≤ n2) (HN2 : Hid (n2.toNat < 2 ^ 64)) (HE : Hid ((!Op.bytesLess s1 s3 && !(s1 == s3)) = true)) : Calls Try.prog 23 #[.int .i64 74, valV 3 n1 s1 o1, valV k2 n2 s2 o2] w (CvPost w (valV 1 18446744073709551615 [] 0, 0)) := by
  have HA := Lib.hid (B2.start w (vObj 3 n1 s1 o1) (vObj k2 n2 s2 o2))
  (obtain ⟨a0, a1, a2, a3⟩ := cells4 HA.out.1.1; obtain ⟨b0, b1, b2, b3⟩ := cells4 HA.out.1.2.1)
  go_enter Try.func23, Try.ntmps23
  go_wp2_with fail
  ((with_reducible refine (rconvert_any k2 n2 o2 _ s2 _ (by omega) hn2 HN2).mono ?_))
  rintro e wx ⟨rfl, hb⟩
  rw [HC.out]
  (have HA2 := HA; clear HA; have HA := Lib.hid (HA2.out.below hb); clear HA2 hb; clear a0 a1 a2 a3 b0 b1 b2 b3; obtain ⟨a0, a1, a2, a3⟩ := cells4 HA.out.1.1; obtain ⟨b0, b1, b2, b3⟩ := cells4 HA.out.1.2.1)
  (have g0 := free3 HA.out.1.2.1 0; have g1 := free3 HA.out.1.2.1 1; have g2 := free3 HA.out.1.2.1 2; have g3 := free3 HA.out.1.2.1 3)
  go_upto_region 4 with fail
  have HA3 := Lib.hid (HA.out.put2 (.int .i64 3) (.int .u64 n3) (.string ⟨s3.toArray⟩) (.int .i64 0))
  clear HA g0 g1 g2 g3
  clear a0 a1 a2 a3 b0 b1 b2 b3
  generalize ((((wx.setCell ⟨w.heap.size + 1, 0, none⟩ (.int .i64 3)).setCell ⟨w.heap.size + 1, 1, none⟩ (.int .u64 n3)).setCell ⟨w.heap.size + 1, 2, none⟩ (.string ⟨s3.toArray⟩)).setCell ⟨w.heap.size + 1, 3, none⟩ (.int .i64 0)) = w3 at *
  have HA := HA3
  clear HA3
  (obtain ⟨a0, a1, a2, a3⟩ := cells4 HA.out.1.1; obtain ⟨b0, b1, b2, b3⟩ := cells4 HA.out.1.2.1)
  go_wp2_with fail
  rw [HE.out]
  ((with_reducible refine (bool_true _).mono ?_))
  rintro e wx ⟨rfl, hb⟩
  (have HA2 := HA; clear HA; have HA := Lib.hid (HA2.out.below hb); clear HA2 hb; clear a0 a1 a2 a3 b0 b1 b2 b3; obtain ⟨a0, a1, a2, a3⟩ := cells4 HA.out.1.1; obtain ⟨b0, b1, b2, b3⟩ := cells4 HA.out.1.2.1)
  (have hn := HA.out.1.2.2; obtain ⟨c0, c1, c2, c3⟩ := cells4 hn; have f0 := free3 hn 0; have f1 := free3 hn 1; have f2 := free3 hn 2; have f3 := free3 hn 3; clear hn)
  go_wp2_with fail
  exact bodyPost_ret (ret_pr _ _ _ _ _ _ _ rfl (put4 HA.out.1.2.2 _ _ _ _)) rfl ⟨by rfl, bel4 HA.out.2 (by omega) _ _ _ _⟩
set_option maxRecDepth 100000 in
set_option maxHeartbeats 2000000 in
theorem pr_74_3_false (n1 o1 k2 n2 o2 : Int) (s1 s2 : List UInt8) (w : World) (hs1 : s1.length ≤ 9223372036854774000) (hs2 : s2.length ≤ 9223372036854774000) (n3 : Int) (s3 : List UInt8) (HC : Hid (cvV k2 n2 s2 o2 3 = (valV 3 n3 s3 0, 0))) (hn2 : 0 ≤ n2) (HN2 : Hid (n2.toNat < 2 ^ 64)) (HE : Hid ((!Op.bytesLess s1 s3 && !(s1 == s3)) = false)) : Calls Try.prog 23 #[.int .i64 74, valV 3 n1 s1 o1, valV k2 n2 s2 o2] w (CvPost w (valV 1 0 [] 0, 0)) := by
  have HA := Lib.hid (B2.start w (vObj 3 n1 s1 o1) (vObj k2 n2 s2 o2))
  (obtain ⟨a0, a1, a2, a3⟩ := cells4 HA.out.1.1; obtain ⟨b0, b1, b2, b3⟩ := cells4 HA.out.1.2.1)
  go_enter Try.func23, Try.ntmps23
  go_wp2_with fail
  ((with_reducible refine (rconvert_any k2 n2 o2 _ s2 _ (by omega) hn2 HN2).mono ?_))
  rintro e wx ⟨rfl, hb⟩
  rw [HC.out]
  (have HA2 := HA; clear HA; have HA := Lib.hid (HA2.out.below hb); clear HA2 hb; clear a0 a1 a2 a3 b0 b1 b2 b3; obtain ⟨a0, a1, a2, a3⟩ := cells4 HA.out.1.1; obtain ⟨b0, b1, b2, b3⟩ := cells4 HA.out.1.2.1)
  (have g0 := free3 HA.out.1.2.1 0; have g1 := free3 HA.out.1.2.1 1; have g2 := free3 HA.out.1.2.1 2; have g3 := free3 HA.out.1.2.1 3)
  go_upto_region 4 with fail
  have HA3 := Lib.hid (HA.out.put2 (.int .i64 3) (.int .u64 n3) (.string ⟨s3.toArray⟩) (.int .i64 0))
  clear HA g0 g1 g2 g3
  clear a0 a1 a2 a3 b0 b1 b2 b3
  generalize ((((wx.setCell ⟨w.heap.size + 1, 0, none⟩ (.int .i64 3)).setCell ⟨w.heap.size + 1, 1, none⟩ (.int .u64 n3)).setCell ⟨w.heap.size + 1, 2, none⟩ (.string ⟨s3.toArray⟩)).setCell ⟨w.heap.size + 1, 3, none⟩ (.int .i64 0)) = w3 at *
  have HA := HA3
  clear HA3
  (obtain ⟨a0, a1, a2, a3⟩ := cells4 HA.out.1.1; obtain ⟨b0, b1, b2, b3⟩ := cells4 HA.out.1.2.1)
  go_wp2_with fail
  rw [HE.out]
  ((with_reducible refine (bool_false _).mono ?_))
  rintro e wx ⟨rfl, hb⟩
  (have HA2 := HA; clear HA; have HA := Lib.hid (HA2.out.below hb); clear HA2 hb; clear a0 a1 a2 a3 b0 b1 b2 b3; obtain ⟨a0, a1, a2, a3⟩ := cells4 HA.out.1.1; obtain ⟨b0, b1, b2, b3⟩ := cells4 HA.out.1.2.1)
  (have hn := HA.out.1.2.2; obtain ⟨c0, c1, c2, c3⟩ := cells4 hn; have f0 := free3 hn 0; have f1 := free3 hn 1; have f2 := free3 hn 2; have f3 := free3 hn 3; clear hn)
  go_wp2_with fail
  exact bodyPost_ret (ret_pr _ _ _ _ _ _ _ rfl (put4 HA.out.1.2.2 _ _ _ _)) rfl ⟨by rfl, bel4 HA.out.2 (by omega) _ _ _ _⟩
set_option maxRecDepth 100000 in
set_option maxHeartbeats 2000000 in
theorem pr_75_1 (n1 o1 k2 n2 o2 : Int) (s1 s2 : List UInt8) (w : World) (hs1 : s1.length ≤ 9223372036854774000) (hs2 : s2.length ≤ 9223372036854774000) (n3 : Int) (s3 : List UInt8) (HC : Hid (cvV k2 n2 s2 o2 1 = (valV 1 n3 s3 0, 0))) (hn2 : 0 ≤ n2) (HN2 : Hid (n2.toNat < 2 ^ 64)) (hn1 : 0 ≤ n1) (hn3 : 0 ≤ n3) : Calls Try.prog 23 #[.int .i64 75, valV 1 n1 s1 o1, valV k2 n2 s2 o2] w (CvPost w (valV 3 0 (little n1.toNat 8 ++ little n3.toNat 8) 0, 0)) := by
  have HA := Lib.hid (B2.start w (vObj 1 n1 s1 o1) (vObj k2 n2 s2 o2))
  (obtain ⟨a0, a1, a2, a3⟩ := cells4 HA.out.1.1; obtain ⟨b0, b1, b2, b3⟩ := cells4 HA.out.1.2.1)
  go_enter Try.func23, Try.ntmps23
  go_wp2_with fail
  ((with_reducible refine (rconvert_any k2 n2 o2 _ s2 _ (by omega) hn2 HN2).mono ?_))
  rintro e wx ⟨rfl, hb⟩
  rw [HC.out]
  (have HA2 := HA; clear HA; have HA := Lib.hid (HA2.out.below hb); clear HA2 hb; clear a0 a1 a2 a3 b0 b1 b2 b3; obtain ⟨a0, a1, a2, a3⟩ := cells4 HA.out.1.1; obtain ⟨b0, b1, b2, b3⟩ := cells4 HA.out.1.2.1)
  (have g0 := free3 HA.out.1.2.1 0; have g1 := free3 HA.out.1.2.1 1; have g2 := free3 HA.out.1.2.1 2; have g3 := free3 HA.out.1.2.1 3)
  go_upto_region 4 with fail
  have HA3 := Lib.hid (HA.out.put2 (.int .i64 1) (.int .u64 n3) (.string ⟨s3.toArray⟩) (.int .i64 0))
  clear HA g0 g1 g2 g3
  clear a0 a1 a2 a3 b0 b1 b2 b3
  generalize ((((wx.setCell ⟨w.heap.size + 1, 0, none⟩ (.int .i64 1)).setCell ⟨w.heap.size + 1, 1, none⟩ (.int .u64 n3)).setCell ⟨w.heap.size + 1, 2, none⟩ (.string ⟨s3.toArray⟩)).setCell ⟨w.heap.size + 1, 3, none⟩ (.int .i64 0)) = w3 at *
  have HA := HA3
  clear HA3
  (obtain ⟨a0, a1, a2, a3⟩ := cells4 HA.out.1.1; obtain ⟨b0, b1, b2, b3⟩ := cells4 HA.out.1.2.1)
  go_upto_region 15 with fail
  clear a0 a1 a2 a3 b0 b1 b2 b3
  have k0 : ∀ x, Grows _ x → x.cell? ⟨w.heap.size, 1, none⟩ = some (.int .u64 n1) := fun x h => (cells4 (HA.out.below h).1.1).2.1
  have k4 : ∀ x, Grows _ x → x.cell? ⟨w.heap.size + 1, 1, none⟩ = some (.int .u64 n3) := fun x h => (cells4 (HA.out.below h).1.2.1).2.1
  refine wp_region_plan (Grows _) 8 [.reads [0, 1, 3, 4], .act 2, .act 5, .reads [6, 7], .act 8, .act 9] (by kernel_rfl) (by kernel_rfl) (by kernel_rfl) (by kernel_rfl) (by kernel_rfl) (fun _ _ d _ _ h => by cases d <;> exact h) (Grows.self _) ?_
  refine wpPlan_reads ?_
  simp only [pickOps, List.drop_succ_cons, List.drop_zero, List.take_succ_cons, List.take_zero, List.cons_append, List.nil_append]
  repeat (go_big_quiet_step (first | (intro hb; rw [k0 _ hb]; exact ⟨rfl, rfl⟩) | (intro hb; rw [k4 _ hb]; exact ⟨rfl, rfl⟩)))
  refine wpQuiet_nil ?_
  clear k0 k4
  refine wpPlan_act rfl ?_
  simp only [pickOps, List.drop_succ_cons, List.drop_zero, List.take_succ_cons, List.take_zero, List.cons_append, List.nil_append]
  go_wp2_with fail
  ((with_reducible refine (rlittle_any n1 _ hn1).mono ?_))
  rintro e w4 ⟨l1, HL1, hl1, rfl, hb2⟩
  have HA4 := Lib.hid (HA.out.drew.below hb2)
  have HG := Lib.hid ((Grows.self _).trans hb2)
  have hm1 : l1.length ≤ 8 := by omega
  clear hb2 HA hl1
  go_wp2_with fail
  refine ⟨fun _ => HG.out, ?_⟩
  refine wpPlan_act rfl ?_
  simp only [pickOps, List.drop_succ_cons, List.drop_zero, List.take_succ_cons, List.take_zero, List.cons_append, List.nil_append]
  go_wp2_with fail
  ((with_reducible refine (rlittle_any n3 _ hn3).mono ?_))
  rintro e w5 ⟨l2, HL2, hl2, rfl, hb2⟩
  have HA := Lib.hid (HA4.out.below hb2)
  have HG2 := Lib.hid (HG.out.trans hb2)
  have hm2 : l2.length ≤ 8 := by omega
  clear hb2 HA4 HG hl2
  (have hn := HA.out.1.2.2; obtain ⟨c0, c1, c2, c3⟩ := cells4 hn; have f0 := free3 hn 0; have f1 := free3 hn 1; have f2 := free3 hn 2; have f3 := free3 hn 3; clear hn)
  go_wp2_with fail
  refine ⟨fun _ => HG2.out, ?_⟩
  refine wpPlan_reads ?_
  simp only [pickOps, List.drop_succ_cons, List.drop_zero, List.take_succ_cons, List.take_zero, List.cons_append, List.nil_append]
  repeat (go_big_quiet_step (fail))
  refine wpQuiet_nil ?_
  refine wpPlan_act rfl ?_
  simp only [pickOps, List.drop_succ_cons, List.drop_zero, List.take_succ_cons, List.take_zero, List.cons_append, List.nil_append]
  go_wp2_with fail
  refine ⟨fun h => absurd h (by decide), ?_⟩
  refine wpPlan_act rfl ?_
  simp only [pickOps, List.drop_succ_cons, List.drop_zero, List.take_succ_cons, List.take_zero, List.cons_append, List.nil_append]
  go_wp2_with fail
  refine ⟨fun h => absurd h (by decide), wpPlan_nil ?_⟩
  go_wp2_with fail
  exact bodyPost_ret (ret_pr _ _ _ _ _ _ _ rfl (put4 HA.out.1.2.2 _ _ _ _)) rfl ⟨by rw [← HL1.out, ← HL2.out]; rfl, bel4 HA.out.2 (by omega) _ _ _ _⟩
set_option maxRecDepth 100000 in
set_option maxHeartbeats 2000000 in
theorem pr_75_2_ok (n1 o1 k2 n2 o2 : Int) (s1 s2 : List UInt8) (w : World) (hs1 : s1.length ≤ 9223372036854774000) (hs2 : s2.length ≤ 9223372036854774000) (n3 : Int) (s3 : List UInt8) (HC : Hid (cvV k2 n2 s2 o2 2 = (valV 2 n3 s3 0, 0))) (hn2 : 0 ≤ n2) (HN2 : Hid (n2.toNat < 2 ^ 64)) (h1 : s1.length ≤ 1000000) (h3 : s3.length ≤ 1000000) (l : List UInt8) (HI : Hid (limV (s1 ++ s3) = (l, 0))) : Calls Try.prog 23 #[.int .i64 75, valV 2 n1 s1 o1, valV k2 n2 s2 o2] w (CvPost w (valV 2 0 l 0, 0)) := by
  have HA := Lib.hid (B2.start w (vObj 2 n1 s1 o1) (vObj k2 n2 s2 o2))
  (obtain ⟨a0, a1, a2, a3⟩ := cells4 HA.out.1.1; obtain ⟨b0, b1, b2, b3⟩ := cells4 HA.out.1.2.1)
  go_enter Try.func23, Try.ntmps23
  go_wp2_with fail
  ((with_reducible refine (rconvert_any k2 n2 o2 _ s2 _ (by omega) hn2 HN2).mono ?_))
  rintro e wx ⟨rfl, hb⟩
  rw [HC.out]
  (have HA2 := HA; clear HA; have HA := Lib.hid (HA2.out.below hb); clear HA2 hb; clear a0 a1 a2 a3 b0 b1 b2 b3; obtain ⟨a0, a1, a2, a3⟩ := cells4 HA.out.1.1; obtain ⟨b0, b1, b2, b3⟩ := cells4 HA.out.1.2.1)
  (have g0 := free3 HA.out.1.2.1 0; have g1 := free3 HA.out.1.2.1 1; have g2 := free3 HA.out.1.2.1 2; have g3 := free3 HA.out.1.2.1 3)
  go_upto_region 4 with fail
  have HA3 := Lib.hid (HA.out.put2 (.int .i64 2) (.int .u64 n3) (.string ⟨s3.toArray⟩) (.int .i64 0))
  clear HA g0 g1 g2 g3
  clear a0 a1 a2 a3 b0 b1 b2 b3
  generalize ((((wx.setCell ⟨w.heap.size + 1, 0, none⟩ (.int .i64 2)).setCell ⟨w.heap.size + 1, 1, none⟩ (.int .u64 n3)).setCell ⟨w.heap.size + 1, 2, none⟩ (.string ⟨s3.toArray⟩)).setCell ⟨w.heap.size + 1, 3, none⟩ (.int .i64 0)) = w3 at *
  have HA := HA3
  clear HA3
  (obtain ⟨a0, a1, a2, a3⟩ := cells4 HA.out.1.1; obtain ⟨b0, b1, b2, b3⟩ := cells4 HA.out.1.2.1)
  go_wp2_with fail
  ((with_reducible refine (bounded_any (s1 ++ s3) _ (by rw [List.length_append]; omega)).mono ?_))
  rintro e w4 ⟨rfl, rfl⟩
  rw [HI.out]
  (have hn := HA.out.1.2.2; obtain ⟨c0, c1, c2, c3⟩ := cells4 hn; have f0 := free3 hn 0; have f1 := free3 hn 1; have f2 := free3 hn 2; have f3 := free3 hn 3; clear hn)
  go_wp2_with fail
  exact bodyPost_ret (ret_pr _ _ _ _ _ _ _ rfl (put4 HA.out.1.2.2 _ _ _ _)) rfl ⟨by rfl, bel4 HA.out.2 (by omega) _ _ _ _⟩
set_option maxRecDepth 100000 in
set_option maxHeartbeats 2000000 in
theorem pr_75_2_err (n1 o1 k2 n2 o2 : Int) (s1 s2 : List UInt8) (w : World) (hs1 : s1.length ≤ 9223372036854774000) (hs2 : s2.length ≤ 9223372036854774000) (n3 : Int) (s3 : List UInt8) (HC : Hid (cvV k2 n2 s2 o2 2 = (valV 2 n3 s3 0, 0))) (hn2 : 0 ≤ n2) (HN2 : Hid (n2.toNat < 2 ^ 64)) (h1 : s1.length ≤ 1000000) (h3 : s3.length ≤ 1000000) (l : List UInt8) (er : Int) (HI : Hid (limV (s1 ++ s3) = (l, er))) (hr : er ≠ 0) : Calls Try.prog 23 #[.int .i64 75, valV 2 n1 s1 o1, valV k2 n2 s2 o2] w (CvPost w (badV er)) := by
  have he' : (er != 0) = true := by rw [bne_iff_ne]; exact hr
  clear hr
  have HA := Lib.hid (B2.start w (vObj 2 n1 s1 o1) (vObj k2 n2 s2 o2))
  (obtain ⟨a0, a1, a2, a3⟩ := cells4 HA.out.1.1; obtain ⟨b0, b1, b2, b3⟩ := cells4 HA.out.1.2.1)
  go_enter Try.func23, Try.ntmps23
  go_wp2_with fail
  ((with_reducible refine (rconvert_any k2 n2 o2 _ s2 _ (by omega) hn2 HN2).mono ?_))
  rintro e wx ⟨rfl, hb⟩
  rw [HC.out]
  (have HA2 := HA; clear HA; have HA := Lib.hid (HA2.out.below hb); clear HA2 hb; clear a0 a1 a2 a3 b0 b1 b2 b3; obtain ⟨a0, a1, a2, a3⟩ := cells4 HA.out.1.1; obtain ⟨b0, b1, b2, b3⟩ := cells4 HA.out.1.2.1)
  (have g0 := free3 HA.out.1.2.1 0; have g1 := free3 HA.out.1.2.1 1; have g2 := free3 HA.out.1.2.1 2; have g3 := free3 HA.out.1.2.1 3)
  go_upto_region 4 with fail
  have HA3 := Lib.hid (HA.out.put2 (.int .i64 2) (.int .u64 n3) (.string ⟨s3.toArray⟩) (.int .i64 0))
  clear HA g0 g1 g2 g3
  clear a0 a1 a2 a3 b0 b1 b2 b3
  generalize ((((wx.setCell ⟨w.heap.size + 1, 0, none⟩ (.int .i64 2)).setCell ⟨w.heap.size + 1, 1, none⟩ (.int .u64 n3)).setCell ⟨w.heap.size + 1, 2, none⟩ (.string ⟨s3.toArray⟩)).setCell ⟨w.heap.size + 1, 3, none⟩ (.int .i64 0)) = w3 at *
  have HA := HA3
  clear HA3
  (obtain ⟨a0, a1, a2, a3⟩ := cells4 HA.out.1.1; obtain ⟨b0, b1, b2, b3⟩ := cells4 HA.out.1.2.1)
  go_wp2_with fail
  ((with_reducible refine (bounded_any (s1 ++ s3) _ (by rw [List.length_append]; omega)).mono ?_))
  rintro e w4 ⟨rfl, rfl⟩
  rw [HI.out]
  (have hn := HA.out.1.2.2; obtain ⟨c0, c1, c2, c3⟩ := cells4 hn; have f0 := free3 hn 0; have f1 := free3 hn 1; have f2 := free3 hn 2; have f3 := free3 hn 3; clear hn)
  go_wp2_with fail
  exact bodyPost_ret (ret_pr _ _ _ _ _ _ _ rfl (put4 HA.out.1.2.2 _ _ _ _)) rfl ⟨by rfl, bel4 HA.out.2 (by omega) _ _ _ _⟩
set_option maxRecDepth 100000 in
set_option maxHeartbeats 2000000 in
theorem pr_75_3_ok (n1 o1 k2 n2 o2 : Int) (s1 s2 : List UInt8) (w : World) (hs1 : s1.length ≤ 9223372036854774000) (hs2 : s2.length ≤ 9223372036854774000) (n3 : Int) (s3 : List UInt8) (HC : Hid (cvV k2 n2 s2 o2 3 = (valV 3 n3 s3 0, 0))) (hn2 : 0 ≤ n2) (HN2 : Hid (n2.toNat < 2 ^ 64)) (h1 : s1.length ≤ 1000000) (h3 : s3.length ≤ 1000000) (l : List UInt8) (HI : Hid (limV (s1 ++ s3) = (l, 0))) : Calls Try.prog 23 #[.int .i64 75, valV 3 n1 s1 o1, valV k2 n2 s2 o2] w (CvPost w (valV 3 0 l 0, 0)) := by
  have HA := Lib.hid (B2.start w (vObj 3 n1 s1 o1) (vObj k2 n2 s2 o2))
  (obtain ⟨a0, a1, a2, a3⟩ := cells4 HA.out.1.1; obtain ⟨b0, b1, b2, b3⟩ := cells4 HA.out.1.2.1)
  go_enter Try.func23, Try.ntmps23
  go_wp2_with fail
  ((with_reducible refine (rconvert_any k2 n2 o2 _ s2 _ (by omega) hn2 HN2).mono ?_))
  rintro e wx ⟨rfl, hb⟩
  rw [HC.out]
  (have HA2 := HA; clear HA; have HA := Lib.hid (HA2.out.below hb); clear HA2 hb; clear a0 a1 a2 a3 b0 b1 b2 b3; obtain ⟨a0, a1, a2, a3⟩ := cells4 HA.out.1.1; obtain ⟨b0, b1, b2, b3⟩ := cells4 HA.out.1.2.1)
  (have g0 := free3 HA.out.1.2.1 0; have g1 := free3 HA.out.1.2.1 1; have g2 := free3 HA.out.1.2.1 2; have g3 := free3 HA.out.1.2.1 3)
  go_upto_region 4 with fail
  have HA3 := Lib.hid (HA.out.put2 (.int .i64 3) (.int .u64 n3) (.string ⟨s3.toArray⟩) (.int .i64 0))
  clear HA g0 g1 g2 g3
  clear a0 a1 a2 a3 b0 b1 b2 b3
  generalize ((((wx.setCell ⟨w.heap.size + 1, 0, none⟩ (.int .i64 3)).setCell ⟨w.heap.size + 1, 1, none⟩ (.int .u64 n3)).setCell ⟨w.heap.size + 1, 2, none⟩ (.string ⟨s3.toArray⟩)).setCell ⟨w.heap.size + 1, 3, none⟩ (.int .i64 0)) = w3 at *
  have HA := HA3
  clear HA3
  (obtain ⟨a0, a1, a2, a3⟩ := cells4 HA.out.1.1; obtain ⟨b0, b1, b2, b3⟩ := cells4 HA.out.1.2.1)
  go_wp2_with fail
  ((with_reducible refine (bounded_any (s1 ++ s3) _ (by rw [List.length_append]; omega)).mono ?_))
  rintro e w4 ⟨rfl, rfl⟩
  rw [HI.out]
  (have hn := HA.out.1.2.2; obtain ⟨c0, c1, c2, c3⟩ := cells4 hn; have f0 := free3 hn 0; have f1 := free3 hn 1; have f2 := free3 hn 2; have f3 := free3 hn 3; clear hn)
  go_wp2_with fail
  exact bodyPost_ret (ret_pr _ _ _ _ _ _ _ rfl (put4 HA.out.1.2.2 _ _ _ _)) rfl ⟨by rfl, bel4 HA.out.2 (by omega) _ _ _ _⟩
set_option maxRecDepth 100000 in
set_option maxHeartbeats 2000000 in
theorem pr_75_3_err (n1 o1 k2 n2 o2 : Int) (s1 s2 : List UInt8) (w : World) (hs1 : s1.length ≤ 9223372036854774000) (hs2 : s2.length ≤ 9223372036854774000) (n3 : Int) (s3 : List UInt8) (HC : Hid (cvV k2 n2 s2 o2 3 = (valV 3 n3 s3 0, 0))) (hn2 : 0 ≤ n2) (HN2 : Hid (n2.toNat < 2 ^ 64)) (h1 : s1.length ≤ 1000000) (h3 : s3.length ≤ 1000000) (l : List UInt8) (er : Int) (HI : Hid (limV (s1 ++ s3) = (l, er))) (hr : er ≠ 0) : Calls Try.prog 23 #[.int .i64 75, valV 3 n1 s1 o1, valV k2 n2 s2 o2] w (CvPost w (badV er)) := by
  have he' : (er != 0) = true := by rw [bne_iff_ne]; exact hr
  clear hr
  have HA := Lib.hid (B2.start w (vObj 3 n1 s1 o1) (vObj k2 n2 s2 o2))
  (obtain ⟨a0, a1, a2, a3⟩ := cells4 HA.out.1.1; obtain ⟨b0, b1, b2, b3⟩ := cells4 HA.out.1.2.1)
  go_enter Try.func23, Try.ntmps23
  go_wp2_with fail
  ((with_reducible refine (rconvert_any k2 n2 o2 _ s2 _ (by omega) hn2 HN2).mono ?_))
  rintro e wx ⟨rfl, hb⟩
  rw [HC.out]
  (have HA2 := HA; clear HA; have HA := Lib.hid (HA2.out.below hb); clear HA2 hb; clear a0 a1 a2 a3 b0 b1 b2 b3; obtain ⟨a0, a1, a2, a3⟩ := cells4 HA.out.1.1; obtain ⟨b0, b1, b2, b3⟩ := cells4 HA.out.1.2.1)
  (have g0 := free3 HA.out.1.2.1 0; have g1 := free3 HA.out.1.2.1 1; have g2 := free3 HA.out.1.2.1 2; have g3 := free3 HA.out.1.2.1 3)
  go_upto_region 4 with fail
  have HA3 := Lib.hid (HA.out.put2 (.int .i64 3) (.int .u64 n3) (.string ⟨s3.toArray⟩) (.int .i64 0))
  clear HA g0 g1 g2 g3
  clear a0 a1 a2 a3 b0 b1 b2 b3
  generalize ((((wx.setCell ⟨w.heap.size + 1, 0, none⟩ (.int .i64 3)).setCell ⟨w.heap.size + 1, 1, none⟩ (.int .u64 n3)).setCell ⟨w.heap.size + 1, 2, none⟩ (.string ⟨s3.toArray⟩)).setCell ⟨w.heap.size + 1, 3, none⟩ (.int .i64 0)) = w3 at *
  have HA := HA3
  clear HA3
  (obtain ⟨a0, a1, a2, a3⟩ := cells4 HA.out.1.1; obtain ⟨b0, b1, b2, b3⟩ := cells4 HA.out.1.2.1)
  go_wp2_with fail
  ((with_reducible refine (bounded_any (s1 ++ s3) _ (by rw [List.length_append]; omega)).mono ?_))
  rintro e w4 ⟨rfl, rfl⟩
  rw [HI.out]
  (have hn := HA.out.1.2.2; obtain ⟨c0, c1, c2, c3⟩ := cells4 hn; have f0 := free3 hn 0; have f1 := free3 hn 1; have f2 := free3 hn 2; have f3 := free3 hn 3; clear hn)
  go_wp2_with fail
  exact bodyPost_ret (ret_pr _ _ _ _ _ _ _ rfl (put4 HA.out.1.2.2 _ _ _ _)) rfl ⟨by rfl, bel4 HA.out.2 (by omega) _ _ _ _⟩
theorem less_gt (n1 n3 : Int) : (!decide (n1 < n3) && !(n1 == n3)) = decide (n3 < n1) := by
  rw [Bool.eq_iff_iff]
  simp
  omega
theorem pr_any (op k1 n1 o1 k2 n2 o2 : Int) (s1 s2 : List UInt8) (w : World) (hs1 : s1.length ≤ 9223372036854774000) (hs2 : s2.length ≤ 9223372036854774000) (hn1 : 0 ≤ n1) (hn2 : 0 ≤ n2) (HN2 : Hid (n2.toNat < 2 ^ 64)) (hv1 : validV k1 s1 = true) (ho : 72 ≤ op) (ho2 : op ≤ 75) :
    Calls Try.prog 23 #[.int .i64 op, valV k1 n1 s1 o1, valV k2 n2 s2 o2] w (CvPost w (if ¬ (k1 = 1 ∨ k1 = 2 ∨ k1 = 3) then badV 10 else if (cvK k2 n2 s2 k1).2.2 ≠ 0 then badV (cvK k2 n2 s2 k1).2.2 else pairV op k1 n1 s1 (cvK k2 n2 s2 k1).1 (cvK k2 n2 s2 k1).2.1)) := by
  by_cases hk : k1 = 1 ∨ k1 = 2 ∨ k1 = 3
  · rw [if_neg (fun h => h hk)]
    have hc := cvV_k k2 n2 s2 o2 k1 hk
    have hok := @cvK_ok k2 n2 s2 k1 hn2
    obtain ⟨⟨x, t, er⟩, hr⟩ : ∃ r, cvK k2 n2 s2 k1 = r := ⟨_, rfl⟩
    rw [hr] at hc hok ⊢
    simp only at hc hok ⊢
    by_cases he : er = 0
    · subst he
      rw [if_pos rfl] at hc
      rw [if_neg (by simp)]
      obtain ⟨hx, ht⟩ := hok rfl
      unfold pairV
      have hl : k1 ≠ 1 → s1.length ≤ 1000000 := by
        intro hne
        have : validV k1 s1 = true := hv1
        unfold validV at this
        rw [decide_eq_true_eq] at this
        omega
      by_cases h75 : op = 75
      · subst h75
        rw [if_pos rfl]
        unfold catV
        rcases hk with rfl | rfl | rfl
        · rw [if_pos rfl]
          exact pr_75_1 n1 o1 k2 n2 o2 s1 s2 w hs1 hs2 x t (Lib.hid hc) hn2 HN2 hn1 hx
        · rw [if_neg (by decide)]
          obtain ⟨⟨l, er⟩, hr⟩ : ∃ r, limV (s1 ++ t) = r := ⟨_, rfl⟩
          rw [hr]
          unfold textE
          by_cases he : er = 0
          · subst he; exact pr_75_2_ok n1 o1 k2 n2 o2 s1 s2 w hs1 hs2 x t (Lib.hid hc) hn2 HN2 (hl (by decide)) (by omega) l (Lib.hid hr)
          · rw [if_neg he]; exact pr_75_2_err n1 o1 k2 n2 o2 s1 s2 w hs1 hs2 x t (Lib.hid hc) hn2 HN2 (hl (by decide)) (by omega) l er (Lib.hid hr) he
        · rw [if_neg (by decide)]
          obtain ⟨⟨l, er⟩, hr⟩ : ∃ r, limV (s1 ++ t) = r := ⟨_, rfl⟩
          rw [hr]
          unfold textE
          by_cases he : er = 0
          · subst he; exact pr_75_3_ok n1 o1 k2 n2 o2 s1 s2 w hs1 hs2 x t (Lib.hid hc) hn2 HN2 (hl (by decide)) (by omega) l (Lib.hid hr)
          · rw [if_neg he]; exact pr_75_3_err n1 o1 k2 n2 o2 s1 s2 w hs1 hs2 x t (Lib.hid hc) hn2 HN2 (hl (by decide)) (by omega) l er (Lib.hid hr) he
      · rw [if_neg h75]
        have hop : op = 72 ∨ op = 73 ∨ op = 74 := by omega
        rcases hk with rfl | rfl | rfl
        · rcases hop with rfl | rfl | rfl
          · have e : cmpT 72 1 n1 s1 x t = topB ((n1 == x)) := by unfold cmpT cmpB; simp
            rw [e]
            cases hE : (n1 == x)
            · exact pr_72_1_false n1 o1 k2 n2 o2 s1 s2 w hs1 hs2 x t (Lib.hid hc) hn2 HN2 hE
            · exact pr_72_1_true n1 o1 k2 n2 o2 s1 s2 w hs1 hs2 x t (Lib.hid hc) hn2 HN2 hE
          · have e : cmpT 73 1 n1 s1 x t = topB (decide (n1 < x)) := by unfold cmpT cmpB; simp
            rw [e]
            cases hE : decide (n1 < x)
            · exact pr_73_1_false n1 o1 k2 n2 o2 s1 s2 w hs1 hs2 x t (Lib.hid hc) hn2 HN2 hE
            · exact pr_73_1_true n1 o1 k2 n2 o2 s1 s2 w hs1 hs2 x t (Lib.hid hc) hn2 HN2 hE
          · have e : cmpT 74 1 n1 s1 x t = topB (decide (x < n1)) := by unfold cmpT cmpB; simp [less_gt]
            rw [e]
            cases hE : decide (x < n1)
            · exact pr_74_1_false n1 o1 k2 n2 o2 s1 s2 w hs1 hs2 x t (Lib.hid hc) hn2 HN2 hE
            · exact pr_74_1_true n1 o1 k2 n2 o2 s1 s2 w hs1 hs2 x t (Lib.hid hc) hn2 HN2 hE
        · rcases hop with rfl | rfl | rfl
          · have e : cmpT 72 2 n1 s1 x t = topB ((s1 == t)) := by unfold cmpT cmpB; simp
            rw [e]
            cases hE : (s1 == t)
            · exact pr_72_2_false n1 o1 k2 n2 o2 s1 s2 w hs1 hs2 x t (Lib.hid hc) hn2 HN2 hE
            · exact pr_72_2_true n1 o1 k2 n2 o2 s1 s2 w hs1 hs2 x t (Lib.hid hc) hn2 HN2 hE
          · have e : cmpT 73 2 n1 s1 x t = topB (Op.bytesLess s1 t) := by unfold cmpT cmpB; simp
            rw [e]
            cases hE : Op.bytesLess s1 t
            · exact pr_73_2_false n1 o1 k2 n2 o2 s1 s2 w hs1 hs2 x t (Lib.hid hc) hn2 HN2 hE
            · exact pr_73_2_true n1 o1 k2 n2 o2 s1 s2 w hs1 hs2 x t (Lib.hid hc) hn2 HN2 hE
          · have e : cmpT 74 2 n1 s1 x t = topB ((!Op.bytesLess s1 t && !(s1 == t))) := by unfold cmpT cmpB; simp
            rw [e]
            cases hE : (!Op.bytesLess s1 t && !(s1 == t))
            · exact pr_74_2_false n1 o1 k2 n2 o2 s1 s2 w hs1 hs2 x t (Lib.hid hc) hn2 HN2 (Lib.hid hE)
            · exact pr_74_2_true n1 o1 k2 n2 o2 s1 s2 w hs1 hs2 x t (Lib.hid hc) hn2 HN2 (Lib.hid hE)
        · rcases hop with rfl | rfl | rfl
          · have e : cmpT 72 3 n1 s1 x t = topB ((s1 == t)) := by unfold cmpT cmpB; simp
            rw [e]
            cases hE : (s1 == t)
            · exact pr_72_3_false n1 o1 k2 n2 o2 s1 s2 w hs1 hs2 x t (Lib.hid hc) hn2 HN2 hE
            · exact pr_72_3_true n1 o1 k2 n2 o2 s1 s2 w hs1 hs2 x t (Lib.hid hc) hn2 HN2 hE
          · have e : cmpT 73 3 n1 s1 x t = topB (Op.bytesLess s1 t) := by unfold cmpT cmpB; simp
            rw [e]
            cases hE : Op.bytesLess s1 t
            · exact pr_73_3_false n1 o1 k2 n2 o2 s1 s2 w hs1 hs2 x t (Lib.hid hc) hn2 HN2 hE
            · exact pr_73_3_true n1 o1 k2 n2 o2 s1 s2 w hs1 hs2 x t (Lib.hid hc) hn2 HN2 hE
          · have e : cmpT 74 3 n1 s1 x t = topB ((!Op.bytesLess s1 t && !(s1 == t))) := by unfold cmpT cmpB; simp
            rw [e]
            cases hE : (!Op.bytesLess s1 t && !(s1 == t))
            · exact pr_74_3_false n1 o1 k2 n2 o2 s1 s2 w hs1 hs2 x t (Lib.hid hc) hn2 HN2 (Lib.hid hE)
            · exact pr_74_3_true n1 o1 k2 n2 o2 s1 s2 w hs1 hs2 x t (Lib.hid hc) hn2 HN2 (Lib.hid hE)
    · rw [if_neg he] at hc
      rw [if_pos he]
      rcases hk with rfl | rfl | rfl
      · exact pr_cverr_1 op n1 o1 k2 n2 o2 s1 s2 w hs1 hs2 er (Lib.hid hc) he hn2 HN2
      · exact pr_cverr_2 op n1 o1 k2 n2 o2 s1 s2 w hs1 hs2 er (Lib.hid hc) he hn2 HN2
      · exact pr_cverr_3 op n1 o1 k2 n2 o2 s1 s2 w hs1 hs2 er (Lib.hid hc) he hn2 HN2
  · rw [if_pos hk]
    exact pr_type op k1 n1 o1 k2 n2 o2 s1 s2 w hs1 hs2 (by omega)
end Go.Proofs.Yteifmjhkedhomaa
