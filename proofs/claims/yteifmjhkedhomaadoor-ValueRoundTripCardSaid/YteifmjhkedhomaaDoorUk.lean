/- Unary of the layer and of its reference: the walks. -/
import Derived.Test.YteifmjhkedhomaaDoorUj
import Derived.Test.YteifmjhkedhomaaDoorWa
namespace Go.Proofs.YteifmjhkedhomaaDoor
open Go.RowKit
set_option linter.unusedVariables false
set_option linter.unusedSimpArgs false
attribute [local go_sem] ByteArray.mk_append_mk bs_get bs_cut bs_end conv1 conv2

theorem ret_run (tmps : Array Value) (w : World) (b : Nat) (c0 c1 c2 c3 : Value) (h2 : tmps.getD 4 undef = .pointer (some ⟨b, 0, none⟩)) (hb : w.heap[b]? = some (.cells #[c0, c1, c2, c3] 24 (0, 0))) :
    (results Tryd.f7 tmps).run Tryd.prog w = .ok (.tuple #[.agg #[c0, c1, c2, c3], tmps.getD 5 undef]) w := by
  obtain ⟨e0, e1, e2, e3⟩ := cells4 hb
  have h2' : tmps[4]?.getD undef = .pointer (some ⟨b, 0, none⟩) := by rw [← h2]; simp
  simp [results]
  go_simp
theorem intE_frm (r : Int × Int) : ∃ (a b : Int) (t : List UInt8) (c er : Int), intE r = (valV a b t c, er) := by
  unfold intE; split
  · exact ⟨_, _, _, _, _, rfl⟩
  · exact ⟨0, 0, [], 0, r.2, rfl⟩
theorem textE_frm (k : Int) (r : List UInt8 × Int) : ∃ (a b : Int) (t : List UInt8) (c er : Int), textE k r = (valV a b t c, er) := by
  unfold textE; split
  · exact ⟨_, _, _, _, _, rfl⟩
  · exact ⟨0, 0, [], 0, r.2, rfl⟩
theorem intRes_is (x er a b c e2 : Int) (t : List UInt8) (H : Hid (intE (x, er) = (valV a b t c, e2))) (w : World) : Calls Tryd.prog 18 #[.int .u64 x, .int .i64 er] w fun e w' => e = .returned (.tuple #[valV a b t c, .int .i64 e2]) ∧ Below w.heap.size w w' := by
  have h := H.out
  unfold intE at h
  by_cases he : er = 0
  · subst he
    rw [if_pos rfl] at h
    injection h with h1 h2
    rw [← h1, ← h2]
    exact intRes_ok x w
  · rw [if_neg he] at h
    injection h with h1 h2
    rw [← h1, ← h2]
    exact intRes_err x er w (by rw [bne_iff_ne]; exact he)
theorem text1_is (k : Int) (x : List UInt8) (er a b c e2 : Int) (t : List UInt8) (H : Hid (textE k (x, er) = (valV a b t c, e2))) (p : Nat) (w : World) (hc : w.cell? ⟨p, 0, none⟩ = some (.int .i64 k)) : Calls Tryd.prog 46 #[.string ⟨x.toArray⟩, .int .i64 er, .pointer (some ⟨p, 0, none⟩)] w fun e w' => e = .returned (.tuple #[valV a b t c, .int .i64 e2]) ∧ Below w.heap.size w w' := by
  have h := H.out
  unfold textE at h
  by_cases he : er = 0
  · subst he
    rw [if_pos rfl] at h
    injection h with h1 h2
    rw [← h1, ← h2]
    exact text1_ok k x p w hc
  · rw [if_neg he] at h
    injection h with h1 h2
    rw [← h1, ← h2]
    exact text1_err er x p w (by rw [bne_iff_ne]; exact he)
theorem rinteger_is (k n o : Int) (s : List UInt8) (x er : Int) (H : Hid (intV k n s = (x, er))) (w : World) (hs : s.length ≤ 9223372036854775000) : Calls Tryd.prog 32 #[valV k n s o] w fun e w' => e = .returned (.tuple #[.int .u64 x, .int .i64 er]) ∧ Below w.heap.size w w' := by
  have := rinteger_any k n o s w hs
  rw [H.out] at this
  exact this
theorem buffer_is (k n : Int) (s : List UInt8) (o : Int) (x : List UInt8) (er : Int) (H : Hid (bufV k n s = (x, er))) (w : World) (hs : s.length ≤ 9223372036854774000) (hn0 : 0 ≤ n) : Calls Tryd.prog 13 #[valV k n s o] w fun e w' => e = .returned (.tuple #[.string ⟨x.toArray⟩, .int .i64 er]) ∧ Below w.heap.size w w' := by
  have := buffer_any k n o s w hs hn0
  rw [H.out] at this
  exact this
set_option maxRecDepth 100000 in
set_option maxHeartbeats 2000000 in
theorem un_bad (op : Int) (k n o : Int) (s : List UInt8) (HV : Hid (validV k s = false)) (hs : s.length ≤ 9223372036854774000) (w : World) : Calls Tryd.prog 6 #[.int .i64 op, valV k n s o] w (CvPost w (badV 1)) := by
  have HA0 := Lib.hid (CAt.start w k n s o)
  have hsg : IntKind.u64.signed = false := rfl
  obtain ⟨b0, b1, b2, b3⟩ := HA0.out.1.cells
  go_enter Tryd.func6, Tryd.ntmps6
  go_wp2_with fail
  ((with_reducible refine (valid_is k n o s false HV _ (by omega)).mono ?_))
  rintro e wz ⟨rfl, hb⟩
  have HA1 := Lib.hid (HA0.out.below hb)
  clear hb HA0 b0 b1 b2 b3
  obtain ⟨b0, b1, b2, b3⟩ := HA1.out.1.cells
  clear b0 b1 b2 b3
  have hn := HA1.out.2
  obtain ⟨c0, c1, c2, c3⟩ := cells4 hn
  have f0 := free3 hn 0
  have f1 := free3 hn 1
  have f2 := free3 hn 2
  have f3 := free3 hn 3
  clear hn
  go_wp2_with fail
  exact bodyPost_ret (ret_un _ _ _ _ _ _ _ rfl (put4 HA1.out.2 _ _ _ _)) rfl ⟨rfl, bel4 HA1.out.1.2 (by omega) _ _ _ _⟩
set_option maxRecDepth 100000 in
set_option maxHeartbeats 2000000 in
theorem un_77 (k n o : Int) (s : List UInt8) (HV : Hid (validV k s = true)) (hs : s.length ≤ 9223372036854774000) (x er a b c e2 : Int) (t : List UInt8) (HI : Hid (intV k n s = (x, er))) (HR : Hid (intE (bits .xor .u64 IntKind.u64.max x, er) = (valV a b t c, e2))) (w : World) : Calls Tryd.prog 6 #[.int .i64 77, valV k n s o] w (CvPost w ((valV a b t c, e2))) := by
  have HA0 := Lib.hid (CAt.start w k n s o)
  have hsg : IntKind.u64.signed = false := rfl
  obtain ⟨b0, b1, b2, b3⟩ := HA0.out.1.cells
  go_enter Tryd.func6, Tryd.ntmps6
  go_wp2_with fail
  ((with_reducible refine (valid_is k n o s true HV _ (by omega)).mono ?_))
  rintro e wz ⟨rfl, hb⟩
  have HA1 := Lib.hid (HA0.out.below hb)
  clear hb HA0 b0 b1 b2 b3
  obtain ⟨b0, b1, b2, b3⟩ := HA1.out.1.cells
  go_wp2_with fail
  ((with_reducible refine (integer_is k n o s x er HI _ (by omega)).mono ?_))
  rintro e wz ⟨rfl, hb⟩
  have HA2 := Lib.hid (HA1.out.below hb)
  clear hb HA1 b0 b1 b2 b3
  go_wp2_with fail
  have HIR := Lib.hid (intRes_is _ er a b c e2 t HR)
  generalize bits .xor .u64 IntKind.u64.max x = y at *
  ((with_reducible refine (HIR.out _).mono ?_))
  rintro e wz ⟨rfl, hb⟩
  have HA3 := Lib.hid (HA2.out.below hb)
  clear hb HA2
  have hn := HA3.out.2
  obtain ⟨c0, c1, c2, c3⟩ := cells4 hn
  have f0 := free3 hn 0
  have f1 := free3 hn 1
  have f2 := free3 hn 2
  have f3 := free3 hn 3
  clear hn
  go_wp2_with fail
  exact bodyPost_ret (ret_un _ _ _ _ _ _ _ rfl (put4 HA3.out.2 _ _ _ _)) rfl ⟨rfl, bel4 HA3.out.1.2 (by omega) _ _ _ _⟩
set_option maxRecDepth 100000 in
set_option maxHeartbeats 2000000 in
theorem un_78e (k n o : Int) (s : List UInt8) (HV : Hid (validV k s = true)) (hs : s.length ≤ 9223372036854774000) (x er : Int) (HI : Hid (intV k n s = (x, er))) (he : (er != 0) = true) (w : World) : Calls Tryd.prog 6 #[.int .i64 78, valV k n s o] w (CvPost w (badV er)) := by
  have HA0 := Lib.hid (CAt.start w k n s o)
  have hsg : IntKind.u64.signed = false := rfl
  obtain ⟨b0, b1, b2, b3⟩ := HA0.out.1.cells
  go_enter Tryd.func6, Tryd.ntmps6
  go_wp2_with fail
  ((with_reducible refine (valid_is k n o s true HV _ (by omega)).mono ?_))
  rintro e wz ⟨rfl, hb⟩
  have HA1 := Lib.hid (HA0.out.below hb)
  clear hb HA0 b0 b1 b2 b3
  obtain ⟨b0, b1, b2, b3⟩ := HA1.out.1.cells
  go_wp2_with fail
  ((with_reducible refine (integer_is k n o s x er HI _ (by omega)).mono ?_))
  rintro e wz ⟨rfl, hb⟩
  have HA2 := Lib.hid (HA1.out.below hb)
  clear hb HA1 b0 b1 b2 b3
  have hn := HA2.out.2
  obtain ⟨c0, c1, c2, c3⟩ := cells4 hn
  have f0 := free3 hn 0
  have f1 := free3 hn 1
  have f2 := free3 hn 2
  have f3 := free3 hn 3
  clear hn
  go_wp2_with fail
  exact bodyPost_ret (ret_un _ _ _ _ _ _ _ rfl (put4 HA2.out.2 _ _ _ _)) rfl ⟨rfl, bel4 HA2.out.1.2 (by omega) _ _ _ _⟩
set_option maxRecDepth 100000 in
set_option maxHeartbeats 2000000 in
theorem un_78t (k n o : Int) (s : List UInt8) (HV : Hid (validV k s = true)) (hs : s.length ≤ 9223372036854774000) (x : Int) (HI : Hid (intV k n s = (x, 0))) (hx : (x == 0) = true) (w : World) : Calls Tryd.prog 6 #[.int .i64 78, valV k n s o] w (CvPost w ((valV 1 (topB true) [] 0, 0))) := by
  have HA0 := Lib.hid (CAt.start w k n s o)
  have hsg : IntKind.u64.signed = false := rfl
  obtain ⟨b0, b1, b2, b3⟩ := HA0.out.1.cells
  go_enter Tryd.func6, Tryd.ntmps6
  go_wp2_with fail
  ((with_reducible refine (valid_is k n o s true HV _ (by omega)).mono ?_))
  rintro e wz ⟨rfl, hb⟩
  have HA1 := Lib.hid (HA0.out.below hb)
  clear hb HA0 b0 b1 b2 b3
  obtain ⟨b0, b1, b2, b3⟩ := HA1.out.1.cells
  go_wp2_with fail
  ((with_reducible refine (integer_is k n o s x 0 HI _ (by omega)).mono ?_))
  rintro e wz ⟨rfl, hb⟩
  have HA2 := Lib.hid (HA1.out.below hb)
  clear hb HA1 b0 b1 b2 b3
  go_wp2_with fail
  ((with_reducible refine (truth_true _).mono ?_))
  rintro e wz ⟨rfl, hb⟩
  have HA3 := Lib.hid (HA2.out.below hb)
  clear hb HA2
  have hn := HA3.out.2
  obtain ⟨c0, c1, c2, c3⟩ := cells4 hn
  have f0 := free3 hn 0
  have f1 := free3 hn 1
  have f2 := free3 hn 2
  have f3 := free3 hn 3
  clear hn
  go_wp2_with fail
  exact bodyPost_ret (ret_un _ _ _ _ _ _ _ rfl (put4 HA3.out.2 _ _ _ _)) rfl ⟨rfl, bel4 HA3.out.1.2 (by omega) _ _ _ _⟩
set_option maxRecDepth 100000 in
set_option maxHeartbeats 2000000 in
theorem un_78f (k n o : Int) (s : List UInt8) (HV : Hid (validV k s = true)) (hs : s.length ≤ 9223372036854774000) (x : Int) (HI : Hid (intV k n s = (x, 0))) (hx : (x == 0) = false) (w : World) : Calls Tryd.prog 6 #[.int .i64 78, valV k n s o] w (CvPost w ((valV 1 (topB false) [] 0, 0))) := by
  have HA0 := Lib.hid (CAt.start w k n s o)
  have hsg : IntKind.u64.signed = false := rfl
  obtain ⟨b0, b1, b2, b3⟩ := HA0.out.1.cells
  go_enter Tryd.func6, Tryd.ntmps6
  go_wp2_with fail
  ((with_reducible refine (valid_is k n o s true HV _ (by omega)).mono ?_))
  rintro e wz ⟨rfl, hb⟩
  have HA1 := Lib.hid (HA0.out.below hb)
  clear hb HA0 b0 b1 b2 b3
  obtain ⟨b0, b1, b2, b3⟩ := HA1.out.1.cells
  go_wp2_with fail
  ((with_reducible refine (integer_is k n o s x 0 HI _ (by omega)).mono ?_))
  rintro e wz ⟨rfl, hb⟩
  have HA2 := Lib.hid (HA1.out.below hb)
  clear hb HA1 b0 b1 b2 b3
  go_wp2_with fail
  ((with_reducible refine (truth_false _).mono ?_))
  rintro e wz ⟨rfl, hb⟩
  have HA3 := Lib.hid (HA2.out.below hb)
  clear hb HA2
  have hn := HA3.out.2
  obtain ⟨c0, c1, c2, c3⟩ := cells4 hn
  have f0 := free3 hn 0
  have f1 := free3 hn 1
  have f2 := free3 hn 2
  have f3 := free3 hn 3
  clear hn
  go_wp2_with fail
  exact bodyPost_ret (ret_un _ _ _ _ _ _ _ rfl (put4 HA3.out.2 _ _ _ _)) rfl ⟨rfl, bel4 HA3.out.1.2 (by omega) _ _ _ _⟩
set_option maxRecDepth 100000 in
set_option maxHeartbeats 2000000 in
theorem un_79e (k n o : Int) (s : List UInt8) (HV : Hid (validV k s = true)) (hs : s.length ≤ 9223372036854774000) (h2 : (k != 2) = true) (h3 : (k != 3) = true) (w : World) : Calls Tryd.prog 6 #[.int .i64 79, valV k n s o] w (CvPost w (badV 10)) := by
  have HA0 := Lib.hid (CAt.start w k n s o)
  have hsg : IntKind.u64.signed = false := rfl
  obtain ⟨b0, b1, b2, b3⟩ := HA0.out.1.cells
  go_enter Tryd.func6, Tryd.ntmps6
  go_wp2_with fail
  ((with_reducible refine (valid_is k n o s true HV _ (by omega)).mono ?_))
  rintro e wz ⟨rfl, hb⟩
  have HA1 := Lib.hid (HA0.out.below hb)
  clear hb HA0 b0 b1 b2 b3
  obtain ⟨b0, b1, b2, b3⟩ := HA1.out.1.cells
  have h2' : (k == 2) = false := by simpa [bne] using h2
  have h3' : (k == 3) = false := by simpa [bne] using h3
  have hn := HA1.out.2
  obtain ⟨c0, c1, c2, c3⟩ := cells4 hn
  have f0 := free3 hn 0
  have f1 := free3 hn 1
  have f2 := free3 hn 2
  have f3 := free3 hn 3
  clear hn
  go_wp2_with fail
  exact bodyPost_ret (ret_un _ _ _ _ _ _ _ rfl (put4 HA1.out.2 _ _ _ _)) rfl ⟨rfl, bel4 HA1.out.1.2 (by omega) _ _ _ _⟩
set_option maxRecDepth 100000 in
set_option maxHeartbeats 2000000 in
theorem un_79_2 (n o : Int) (s : List UInt8) (HV : Hid (validV 2 s = true)) (hs : s.length ≤ 9223372036854774000) (w : World) : Calls Tryd.prog 6 #[.int .i64 79, valV 2 n s o] w (CvPost w ((valV 1 s.length [] 0, 0))) := by
  have hw : IntKind.u64.wrap (s.length : Int) = (s.length : Int) := IntWalk.u64_in _ ⟨by omega, by omega⟩
  have HA0 := Lib.hid (CAt.start w 2 n s o)
  have hsg : IntKind.u64.signed = false := rfl
  obtain ⟨b0, b1, b2, b3⟩ := HA0.out.1.cells
  go_enter Tryd.func6, Tryd.ntmps6
  go_wp2_with fail
  ((with_reducible refine (valid_is 2 n o s true HV _ (by omega)).mono ?_))
  rintro e wz ⟨rfl, hb⟩
  have HA1 := Lib.hid (HA0.out.below hb)
  clear hb HA0 b0 b1 b2 b3
  obtain ⟨b0, b1, b2, b3⟩ := HA1.out.1.cells
  go_wp2_with fail
  ((with_reducible refine (intRes_ok (s.length : Int) _).mono ?_))
  rintro e wz ⟨rfl, hb⟩
  have HA2 := Lib.hid (HA1.out.below hb)
  clear hb HA1 b0 b1 b2 b3
  have hn := HA2.out.2
  obtain ⟨c0, c1, c2, c3⟩ := cells4 hn
  have f0 := free3 hn 0
  have f1 := free3 hn 1
  have f2 := free3 hn 2
  have f3 := free3 hn 3
  clear hn
  go_wp2_with fail
  exact bodyPost_ret (ret_un _ _ _ _ _ _ _ rfl (put4 HA2.out.2 _ _ _ _)) rfl ⟨rfl, bel4 HA2.out.1.2 (by omega) _ _ _ _⟩
set_option maxRecDepth 100000 in
set_option maxHeartbeats 2000000 in
theorem un_79_3 (n o : Int) (s : List UInt8) (HV : Hid (validV 3 s = true)) (hs : s.length ≤ 9223372036854774000) (w : World) : Calls Tryd.prog 6 #[.int .i64 79, valV 3 n s o] w (CvPost w ((valV 1 s.length [] 0, 0))) := by
  have hw : IntKind.u64.wrap (s.length : Int) = (s.length : Int) := IntWalk.u64_in _ ⟨by omega, by omega⟩
  have HA0 := Lib.hid (CAt.start w 3 n s o)
  have hsg : IntKind.u64.signed = false := rfl
  obtain ⟨b0, b1, b2, b3⟩ := HA0.out.1.cells
  go_enter Tryd.func6, Tryd.ntmps6
  go_wp2_with fail
  ((with_reducible refine (valid_is 3 n o s true HV _ (by omega)).mono ?_))
  rintro e wz ⟨rfl, hb⟩
  have HA1 := Lib.hid (HA0.out.below hb)
  clear hb HA0 b0 b1 b2 b3
  obtain ⟨b0, b1, b2, b3⟩ := HA1.out.1.cells
  go_wp2_with fail
  ((with_reducible refine (intRes_ok (s.length : Int) _).mono ?_))
  rintro e wz ⟨rfl, hb⟩
  have HA2 := Lib.hid (HA1.out.below hb)
  clear hb HA1 b0 b1 b2 b3
  have hn := HA2.out.2
  obtain ⟨c0, c1, c2, c3⟩ := cells4 hn
  have f0 := free3 hn 0
  have f1 := free3 hn 1
  have f2 := free3 hn 2
  have f3 := free3 hn 3
  clear hn
  go_wp2_with fail
  exact bodyPost_ret (ret_un _ _ _ _ _ _ _ rfl (put4 HA2.out.2 _ _ _ _)) rfl ⟨rfl, bel4 HA2.out.1.2 (by omega) _ _ _ _⟩
set_option maxRecDepth 100000 in
set_option maxHeartbeats 2000000 in
theorem un_80s (n o : Int) (s : List UInt8) (HV : Hid (validV 2 s = true)) (hs : s.length ≤ 9223372036854774000) (x er a b c e2 : Int) (t : List UInt8) (HI : Hid (parE (parV s) = (x, er))) (HR : Hid (intE (x, er) = (valV a b t c, e2))) (w : World) : Calls Tryd.prog 6 #[.int .i64 80, valV 2 n s o] w (CvPost w ((valV a b t c, e2))) := by
  have HA0 := Lib.hid (CAt.start w 2 n s o)
  have hsg : IntKind.u64.signed = false := rfl
  obtain ⟨b0, b1, b2, b3⟩ := HA0.out.1.cells
  go_enter Tryd.func6, Tryd.ntmps6
  go_wp2_with fail
  ((with_reducible refine (valid_is 2 n o s true HV _ (by omega)).mono ?_))
  rintro e wz ⟨rfl, hb⟩
  have HA1 := Lib.hid (HA0.out.below hb)
  clear hb HA0 b0 b1 b2 b3
  obtain ⟨b0, b1, b2, b3⟩ := HA1.out.1.cells
  go_wp2_with fail
  ((with_reducible refine (parse_any s _ hs).mono ?_))
  rintro e wz ⟨rfl, rfl⟩
  rw [HI.out]
  go_wp2_with fail
  ((with_reducible refine (intRes_is x er a b c e2 t HR _).mono ?_))
  rintro e wz ⟨rfl, hb⟩
  have HA2 := Lib.hid (HA1.out.below hb)
  clear hb HA1 b0 b1 b2 b3
  have hn := HA2.out.2
  obtain ⟨c0, c1, c2, c3⟩ := cells4 hn
  have f0 := free3 hn 0
  have f1 := free3 hn 1
  have f2 := free3 hn 2
  have f3 := free3 hn 3
  clear hn
  go_wp2_with fail
  exact bodyPost_ret (ret_un _ _ _ _ _ _ _ rfl (put4 HA2.out.2 _ _ _ _)) rfl ⟨rfl, bel4 HA2.out.1.2 (by omega) _ _ _ _⟩
set_option maxRecDepth 100000 in
set_option maxHeartbeats 2000000 in
theorem un_80n (k n o : Int) (s : List UInt8) (HV : Hid (validV k s = true)) (hs : s.length ≤ 9223372036854774000) (h2 : (k == 2) = false) (x er a b c e2 : Int) (t : List UInt8) (HI : Hid (intV k n s = (x, er))) (HR : Hid (intE (x, er) = (valV a b t c, e2))) (w : World) : Calls Tryd.prog 6 #[.int .i64 80, valV k n s o] w (CvPost w ((valV a b t c, e2))) := by
  have HA0 := Lib.hid (CAt.start w k n s o)
  have hsg : IntKind.u64.signed = false := rfl
  obtain ⟨b0, b1, b2, b3⟩ := HA0.out.1.cells
  go_enter Tryd.func6, Tryd.ntmps6
  go_wp2_with fail
  ((with_reducible refine (valid_is k n o s true HV _ (by omega)).mono ?_))
  rintro e wz ⟨rfl, hb⟩
  have HA1 := Lib.hid (HA0.out.below hb)
  clear hb HA0 b0 b1 b2 b3
  obtain ⟨b0, b1, b2, b3⟩ := HA1.out.1.cells
  go_wp2_with fail
  ((with_reducible refine (integer_is k n o s x er HI _ (by omega)).mono ?_))
  rintro e wz ⟨rfl, hb⟩
  have HA2 := Lib.hid (HA1.out.below hb)
  clear hb HA1 b0 b1 b2 b3
  go_wp2_with fail
  ((with_reducible refine (intRes_is x er a b c e2 t HR _).mono ?_))
  rintro e wz ⟨rfl, hb⟩
  have HA3 := Lib.hid (HA2.out.below hb)
  clear hb HA2
  have hn := HA3.out.2
  obtain ⟨c0, c1, c2, c3⟩ := cells4 hn
  have f0 := free3 hn 0
  have f1 := free3 hn 1
  have f2 := free3 hn 2
  have f3 := free3 hn 3
  clear hn
  go_wp2_with fail
  exact bodyPost_ret (ret_un _ _ _ _ _ _ _ rfl (put4 HA3.out.2 _ _ _ _)) rfl ⟨rfl, bel4 HA3.out.1.2 (by omega) _ _ _ _⟩
set_option maxRecDepth 100000 in
set_option maxHeartbeats 2000000 in
theorem un_82 (k n o : Int) (s : List UInt8) (HV : Hid (validV k s = true)) (hs : s.length ≤ 9223372036854774000) (a b c er : Int) (t : List UInt8) (H : ∀ w, Tz16 w → Calls Tryd.prog 22 #[valV k n s o, .func (.func 23) #[] #[], .func (.func 26) #[] #[]] w (CvPost w (valV a b t c, er))) (w : World) (hT : Tz16 w) : Calls Tryd.prog 6 #[.int .i64 82, valV k n s o] w (CvPost w ((valV a b t c, er))) := by
  have HTZ : Hid (∀ w', Below w.heap.size w w' → Tz16 w') := Lib.hid fun w' h => (h.cell (p := ⟨6, 15, none⟩) (World.block_lt_of_cell? w _ hT)).trans hT
  clear hT
  have HA0 := Lib.hid (CAt.start w k n s o)
  have hsg : IntKind.u64.signed = false := rfl
  obtain ⟨b0, b1, b2, b3⟩ := HA0.out.1.cells
  go_enter Tryd.func6, Tryd.ntmps6
  go_wp2_with fail
  ((with_reducible refine (valid_is k n o s true HV _ (by omega)).mono ?_))
  rintro e wz ⟨rfl, hb⟩
  have HA1 := Lib.hid (HA0.out.below hb)
  clear hb HA0 b0 b1 b2 b3
  obtain ⟨b0, b1, b2, b3⟩ := HA1.out.1.cells
  go_wp2_with fail
  ((with_reducible refine (H _ (HTZ.out _ HA1.out.bel)).mono ?_))
  rintro e wz ⟨rfl, hb⟩
  have HA2 := Lib.hid (HA1.out.below hb)
  clear hb HA1 b0 b1 b2 b3
  have hn := HA2.out.2
  obtain ⟨c0, c1, c2, c3⟩ := cells4 hn
  have f0 := free3 hn 0
  have f1 := free3 hn 1
  have f2 := free3 hn 2
  have f3 := free3 hn 3
  clear hn
  go_wp2_with fail
  exact bodyPost_ret (ret_un _ _ _ _ _ _ _ rfl (put4 HA2.out.2 _ _ _ _)) rfl ⟨rfl, bel4 HA2.out.1.2 (by omega) _ _ _ _⟩
set_option maxRecDepth 100000 in
set_option maxHeartbeats 2000000 in
theorem un_83 (k n o : Int) (s : List UInt8) (HV : Hid (validV k s = true)) (hs : s.length ≤ 9223372036854774000) (a b c er : Int) (t : List UInt8) (H : ∀ w, Pow10 w → Calls Tryd.prog 22 #[valV k n s o, .func (.func 28) #[] #[], .func (.func 29) #[] #[]] w (CvPost w (valV a b t c, er))) (w : World) (hT : Pow10 w) : Calls Tryd.prog 6 #[.int .i64 83, valV k n s o] w (CvPost w ((valV a b t c, er))) := by
  have HTZ : Hid (∀ w', Below w.heap.size w w' → Pow10 w') := Lib.hid fun w' h => pow10_below hT h (pow10_lt hT)
  clear hT
  have HA0 := Lib.hid (CAt.start w k n s o)
  have hsg : IntKind.u64.signed = false := rfl
  obtain ⟨b0, b1, b2, b3⟩ := HA0.out.1.cells
  go_enter Tryd.func6, Tryd.ntmps6
  go_wp2_with fail
  ((with_reducible refine (valid_is k n o s true HV _ (by omega)).mono ?_))
  rintro e wz ⟨rfl, hb⟩
  have HA1 := Lib.hid (HA0.out.below hb)
  clear hb HA0 b0 b1 b2 b3
  obtain ⟨b0, b1, b2, b3⟩ := HA1.out.1.cells
  go_wp2_with fail
  ((with_reducible refine (H _ (HTZ.out _ HA1.out.bel)).mono ?_))
  rintro e wz ⟨rfl, hb⟩
  have HA2 := Lib.hid (HA1.out.below hb)
  clear hb HA1 b0 b1 b2 b3
  have hn := HA2.out.2
  obtain ⟨c0, c1, c2, c3⟩ := cells4 hn
  have f0 := free3 hn 0
  have f1 := free3 hn 1
  have f2 := free3 hn 2
  have f3 := free3 hn 3
  clear hn
  go_wp2_with fail
  exact bodyPost_ret (ret_un _ _ _ _ _ _ _ rfl (put4 HA2.out.2 _ _ _ _)) rfl ⟨rfl, bel4 HA2.out.1.2 (by omega) _ _ _ _⟩
set_option maxRecDepth 100000 in
set_option maxHeartbeats 2000000 in
theorem un_81 (k n o : Int) (s : List UInt8) (HV : Hid (validV k s = true)) (hs : s.length ≤ 9223372036854774000) (hn0 : 0 ≤ n) (x : List UInt8) (er a b' c e2 : Int) (t : List UInt8) (HI : Hid (bufV k n s = (x, er))) (HR : Hid (textE 3 (x, er) = (valV a b' t c, e2))) (w : World) : Calls Tryd.prog 6 #[.int .i64 81, valV k n s o] w (CvPost w ((valV a b' t c, e2))) := by
  have HA0 := Lib.hid (CAt.start w k n s o)
  have hsg : IntKind.u64.signed = false := rfl
  obtain ⟨b0, b1, b2, b3⟩ := HA0.out.1.cells
  go_enter Tryd.func6, Tryd.ntmps6
  go_wp2_with fail
  ((with_reducible refine (valid_is k n o s true HV _ (by omega)).mono ?_))
  rintro e wz ⟨rfl, hb⟩
  have HA1 := Lib.hid (HA0.out.below hb)
  clear hb HA0 b0 b1 b2 b3
  obtain ⟨b0, b1, b2, b3⟩ := HA1.out.1.cells
  go_upto_region 21 with fail
  clear b0 b1 b2 b3
  have k0 : ∀ x, Grows _ x → x.cell? ⟨w.heap.size, 0, none⟩ = some (.int .i64 k) := fun x h => (HA1.out.below h).1.cells.1
  have k1 : ∀ x, Grows _ x → x.cell? ⟨w.heap.size, 1, none⟩ = some (.int .u64 n) := fun x h => (HA1.out.below h).1.cells.2.1
  have k2 : ∀ x, Grows _ x → x.cell? ⟨w.heap.size, 2, none⟩ = some (.string ⟨s.toArray⟩) := fun x h => (HA1.out.below h).1.cells.2.2.1
  have k3 : ∀ x, Grows _ x → x.cell? ⟨w.heap.size, 3, none⟩ = some (.int .i64 o) := fun x h => (HA1.out.below h).1.cells.2.2.2
  refine wp_region_plan (Grows _) 8 [.reads [1], .act 0, .act 2, .reads [3, 4], .act 5, .reads [6, 7], .act 8, .act 9] (by kernel_rfl) (by kernel_rfl) (by kernel_rfl) (by kernel_rfl) (by kernel_rfl) (fun _ _ d _ _ h => by cases d <;> exact h) (Grows.self _) ?_
  refine wpPlan_reads ?_
  simp only [pickOps, List.drop_succ_cons, List.drop_zero, List.take_succ_cons, List.take_zero, List.cons_append, List.nil_append]
  repeat (go_big_quiet_step (first | (intro hb; rw [k0 _ hb]; simp only [Result.andThen]; rw [k1 _ hb]; simp only; rw [k2 _ hb]; simp only; rw [k3 _ hb]; exact ⟨rfl, rfl⟩)))
  refine wpQuiet_nil ?_
  clear k0 k1 k2 k3
  refine wpPlan_act rfl ?_
  simp only [pickOps, List.drop_succ_cons, List.drop_zero, List.take_succ_cons, List.take_zero, List.cons_append, List.nil_append]
  go_wp2_with fail
  ((with_reducible refine (text_b _ _).mono ?_))
  rintro e w2 ⟨b, rfl, hb2, hc2⟩
  have HA := Lib.hid (HA1.out.drew.below hb2)
  have HG := Lib.hid ((Grows.self _).trans hb2)
  have HC := Lib.hid hc2
  clear hb2 hc2 HA1
  go_wp2_with fail
  refine ⟨fun _ => HG.out, ?_⟩
  refine wpPlan_act rfl ?_
  simp only [pickOps, List.drop_succ_cons, List.drop_zero, List.take_succ_cons, List.take_zero, List.cons_append, List.nil_append]
  go_wp2_with fail
  ((with_reducible refine (buffer_is k n s o x er HI _ hs hn0).mono ?_))
  rintro e w3 ⟨rfl, hb2⟩
  have HA2 := Lib.hid (HA.out.below hb2)
  have HG2 := Lib.hid (HG.out.trans hb2)
  have HC2 := Lib.hid (blk_below HC.out hb2)
  clear hb2 HA HG HC
  go_wp2_with fail
  refine ⟨fun _ => HG2.out, ?_⟩
  refine wpPlan_reads ?_
  simp only [pickOps, List.drop_succ_cons, List.drop_zero, List.take_succ_cons, List.take_zero, List.cons_append, List.nil_append]
  repeat (go_big_quiet_step (fail))
  refine wpQuiet_nil ?_
  refine wpPlan_act rfl ?_
  simp only [pickOps, List.drop_succ_cons, List.drop_zero, List.take_succ_cons, List.take_zero, List.cons_append, List.nil_append]
  go_wp2_with fail
  ((with_reducible refine (text1_is 3 x er a b' c e2 t HR _ _ (cell1 HC2.out)).mono ?_))
  rintro e w4 ⟨rfl, hb2⟩
  have HA3 := Lib.hid (HA2.out.below hb2)
  have HG3 := Lib.hid (HG2.out.trans hb2)
  clear hb2 HA2 HC2 HG2
  have hn := HA3.out.2
  obtain ⟨c0, c1, c2, c3⟩ := cells4 hn
  have f0 := free3 hn 0
  have f1 := free3 hn 1
  have f2 := free3 hn 2
  have f3 := free3 hn 3
  clear hn
  go_wp2_with fail
  refine ⟨fun _ => HG3.out, ?_⟩
  refine wpPlan_reads ?_
  simp only [pickOps, List.drop_succ_cons, List.drop_zero, List.take_succ_cons, List.take_zero, List.cons_append, List.nil_append]
  repeat (go_big_quiet_step (fail))
  refine wpQuiet_nil ?_
  refine wpPlan_act rfl ?_
  simp only [pickOps, List.drop_succ_cons, List.drop_zero, List.take_succ_cons, List.take_zero, List.cons_append, List.nil_append]
  go_wp2_with fail
  refine ⟨fun h => absurd h (by decide), ?_⟩
  refine wpPlan_act rfl ?_
  simp only [pickOps, List.drop_succ_cons, List.drop_zero, List.take_succ_cons, List.take_zero, List.cons_append, List.nil_append]
  go_wp2_with fail
  refine ⟨fun h => absurd h (by decide), wpPlan_nil ?_⟩
  go_wp2_with fail
  exact bodyPost_ret (ret_un _ _ _ _ _ _ _ rfl (put4 HA3.out.2 _ _ _ _)) rfl ⟨rfl, bel4 HA3.out.1.2 (by omega) _ _ _ _⟩
set_option maxRecDepth 100000 in
set_option maxHeartbeats 2000000 in
theorem un_else (op : Int) (k n o : Int) (s : List UInt8) (HV : Hid (validV k s = true)) (hs : s.length ≤ 9223372036854774000) (h77 : (op == 77) = false) (h78 : (op == 78) = false) (h79 : (op == 79) = false) (h80 : (op == 80) = false) (h81 : (op == 81) = false) (h82 : (op == 82) = false) (h83 : (op == 83) = false) (w : World) : Calls Tryd.prog 6 #[.int .i64 op, valV k n s o] w (CvPost w (badV 1)) := by
  have HA0 := Lib.hid (CAt.start w k n s o)
  have hsg : IntKind.u64.signed = false := rfl
  obtain ⟨b0, b1, b2, b3⟩ := HA0.out.1.cells
  go_enter Tryd.func6, Tryd.ntmps6
  go_wp2_with fail
  ((with_reducible refine (valid_is k n o s true HV _ (by omega)).mono ?_))
  rintro e wz ⟨rfl, hb⟩
  have HA1 := Lib.hid (HA0.out.below hb)
  clear hb HA0 b0 b1 b2 b3
  obtain ⟨b0, b1, b2, b3⟩ := HA1.out.1.cells
  have hn := HA1.out.2
  obtain ⟨c0, c1, c2, c3⟩ := cells4 hn
  have f0 := free3 hn 0
  have f1 := free3 hn 1
  have f2 := free3 hn 2
  have f3 := free3 hn 3
  clear hn
  go_wp2_with fail
  exact bodyPost_ret (ret_un _ _ _ _ _ _ _ rfl (put4 HA1.out.2 _ _ _ _)) rfl ⟨rfl, bel4 HA1.out.1.2 (by omega) _ _ _ _⟩
set_option maxRecDepth 100000 in
set_option maxHeartbeats 2000000 in
theorem run_bad (op : Int) (k n o : Int) (s : List UInt8) (HV : Hid (validV k s = false)) (hs : s.length ≤ 9223372036854774000) (w : World) : Calls Tryd.prog 7 #[.int .i64 op, valV k n s o] w (CvPost w (badV 1)) := by
  have HA0 := Lib.hid (CAt.start w k n s o)
  have hsg : IntKind.u64.signed = false := rfl
  obtain ⟨b0, b1, b2, b3⟩ := HA0.out.1.cells
  go_enter Tryd.func7, Tryd.ntmps7
  go_wp2_with fail
  ((with_reducible refine (rvalid_is k n o s false HV _ (by omega)).mono ?_))
  rintro e wz ⟨rfl, hb⟩
  have HA1 := Lib.hid (HA0.out.below hb)
  clear hb HA0 b0 b1 b2 b3
  obtain ⟨b0, b1, b2, b3⟩ := HA1.out.1.cells
  clear b0 b1 b2 b3
  have hn := HA1.out.2
  obtain ⟨c0, c1, c2, c3⟩ := cells4 hn
  have f0 := free3 hn 0
  have f1 := free3 hn 1
  have f2 := free3 hn 2
  have f3 := free3 hn 3
  clear hn
  go_wp2_with fail
  exact bodyPost_ret (ret_run _ _ _ _ _ _ _ rfl (put4 HA1.out.2 _ _ _ _)) rfl ⟨rfl, bel4 HA1.out.1.2 (by omega) _ _ _ _⟩
set_option maxRecDepth 100000 in
set_option maxHeartbeats 2000000 in
theorem run_77e (k n o : Int) (s : List UInt8) (HV : Hid (validV k s = true)) (hs : s.length ≤ 9223372036854774000) (x er : Int) (HI : Hid (intV k n s = (x, er))) (he : (er != 0) = true) (w : World) : Calls Tryd.prog 7 #[.int .i64 77, valV k n s o] w (CvPost w (badV er)) := by
  have HA0 := Lib.hid (CAt.start w k n s o)
  have hsg : IntKind.u64.signed = false := rfl
  obtain ⟨b0, b1, b2, b3⟩ := HA0.out.1.cells
  go_enter Tryd.func7, Tryd.ntmps7
  go_wp2_with fail
  ((with_reducible refine (rvalid_is k n o s true HV _ (by omega)).mono ?_))
  rintro e wz ⟨rfl, hb⟩
  have HA1 := Lib.hid (HA0.out.below hb)
  clear hb HA0 b0 b1 b2 b3
  obtain ⟨b0, b1, b2, b3⟩ := HA1.out.1.cells
  go_wp2_with fail
  ((with_reducible refine (rinteger_is k n o s x er HI _ (by omega)).mono ?_))
  rintro e wz ⟨rfl, hb⟩
  have HA2 := Lib.hid (HA1.out.below hb)
  clear hb HA1 b0 b1 b2 b3
  have hn := HA2.out.2
  obtain ⟨c0, c1, c2, c3⟩ := cells4 hn
  have f0 := free3 hn 0
  have f1 := free3 hn 1
  have f2 := free3 hn 2
  have f3 := free3 hn 3
  clear hn
  go_wp2_with fail
  exact bodyPost_ret (ret_run _ _ _ _ _ _ _ rfl (put4 HA2.out.2 _ _ _ _)) rfl ⟨rfl, bel4 HA2.out.1.2 (by omega) _ _ _ _⟩
set_option maxRecDepth 100000 in
set_option maxHeartbeats 2000000 in
theorem run_78e (k n o : Int) (s : List UInt8) (HV : Hid (validV k s = true)) (hs : s.length ≤ 9223372036854774000) (x er : Int) (HI : Hid (intV k n s = (x, er))) (he : (er != 0) = true) (w : World) : Calls Tryd.prog 7 #[.int .i64 78, valV k n s o] w (CvPost w (badV er)) := by
  have HA0 := Lib.hid (CAt.start w k n s o)
  have hsg : IntKind.u64.signed = false := rfl
  obtain ⟨b0, b1, b2, b3⟩ := HA0.out.1.cells
  go_enter Tryd.func7, Tryd.ntmps7
  go_wp2_with fail
  ((with_reducible refine (rvalid_is k n o s true HV _ (by omega)).mono ?_))
  rintro e wz ⟨rfl, hb⟩
  have HA1 := Lib.hid (HA0.out.below hb)
  clear hb HA0 b0 b1 b2 b3
  obtain ⟨b0, b1, b2, b3⟩ := HA1.out.1.cells
  go_wp2_with fail
  ((with_reducible refine (rinteger_is k n o s x er HI _ (by omega)).mono ?_))
  rintro e wz ⟨rfl, hb⟩
  have HA2 := Lib.hid (HA1.out.below hb)
  clear hb HA1 b0 b1 b2 b3
  have hn := HA2.out.2
  obtain ⟨c0, c1, c2, c3⟩ := cells4 hn
  have f0 := free3 hn 0
  have f1 := free3 hn 1
  have f2 := free3 hn 2
  have f3 := free3 hn 3
  clear hn
  go_wp2_with fail
  exact bodyPost_ret (ret_run _ _ _ _ _ _ _ rfl (put4 HA2.out.2 _ _ _ _)) rfl ⟨rfl, bel4 HA2.out.1.2 (by omega) _ _ _ _⟩
set_option maxRecDepth 100000 in
set_option maxHeartbeats 2000000 in
theorem run_77 (k n o : Int) (s : List UInt8) (HV : Hid (validV k s = true)) (hs : s.length ≤ 9223372036854774000) (x : Int) (HI : Hid (intV k n s = (x, 0))) (w : World) : Calls Tryd.prog 7 #[.int .i64 77, valV k n s o] w (CvPost w ((valV 1 (bits .xor .u64 IntKind.u64.max x) [] 0, 0))) := by
  have HA0 := Lib.hid (CAt.start w k n s o)
  have hsg : IntKind.u64.signed = false := rfl
  obtain ⟨b0, b1, b2, b3⟩ := HA0.out.1.cells
  go_enter Tryd.func7, Tryd.ntmps7
  go_wp2_with fail
  ((with_reducible refine (rvalid_is k n o s true HV _ (by omega)).mono ?_))
  rintro e wz ⟨rfl, hb⟩
  have HA1 := Lib.hid (HA0.out.below hb)
  clear hb HA0 b0 b1 b2 b3
  obtain ⟨b0, b1, b2, b3⟩ := HA1.out.1.cells
  go_wp2_with fail
  ((with_reducible refine (rinteger_is k n o s x 0 HI _ (by omega)).mono ?_))
  rintro e wz ⟨rfl, hb⟩
  have HA2 := Lib.hid (HA1.out.below hb)
  clear hb HA1 b0 b1 b2 b3
  go_wp2_with fail
  generalize bits .xor .u64 IntKind.u64.max x = y at *
  ((with_reducible refine (number_any y _).mono ?_))
  rintro e wz ⟨rfl, hb⟩
  have HA3 := Lib.hid (HA2.out.below hb)
  clear hb HA2
  have hn := HA3.out.2
  obtain ⟨c0, c1, c2, c3⟩ := cells4 hn
  have f0 := free3 hn 0
  have f1 := free3 hn 1
  have f2 := free3 hn 2
  have f3 := free3 hn 3
  clear hn
  go_wp2_with fail
  exact bodyPost_ret (ret_run _ _ _ _ _ _ _ rfl (put4 HA3.out.2 _ _ _ _)) rfl ⟨rfl, bel4 HA3.out.1.2 (by omega) _ _ _ _⟩
set_option maxRecDepth 100000 in
set_option maxHeartbeats 2000000 in
theorem run_78t (k n o : Int) (s : List UInt8) (HV : Hid (validV k s = true)) (hs : s.length ≤ 9223372036854774000) (x : Int) (HI : Hid (intV k n s = (x, 0))) (hx : (x == 0) = true) (w : World) : Calls Tryd.prog 7 #[.int .i64 78, valV k n s o] w (CvPost w ((valV 1 (topB true) [] 0, 0))) := by
  have HA0 := Lib.hid (CAt.start w k n s o)
  have hsg : IntKind.u64.signed = false := rfl
  obtain ⟨b0, b1, b2, b3⟩ := HA0.out.1.cells
  go_enter Tryd.func7, Tryd.ntmps7
  go_wp2_with fail
  ((with_reducible refine (rvalid_is k n o s true HV _ (by omega)).mono ?_))
  rintro e wz ⟨rfl, hb⟩
  have HA1 := Lib.hid (HA0.out.below hb)
  clear hb HA0 b0 b1 b2 b3
  obtain ⟨b0, b1, b2, b3⟩ := HA1.out.1.cells
  go_wp2_with fail
  ((with_reducible refine (rinteger_is k n o s x 0 HI _ (by omega)).mono ?_))
  rintro e wz ⟨rfl, hb⟩
  have HA2 := Lib.hid (HA1.out.below hb)
  clear hb HA1 b0 b1 b2 b3
  go_wp2_with fail
  ((with_reducible refine (bool_true _).mono ?_))
  rintro e wz ⟨rfl, hb⟩
  have HA3 := Lib.hid (HA2.out.below hb)
  clear hb HA2
  have hn := HA3.out.2
  obtain ⟨c0, c1, c2, c3⟩ := cells4 hn
  have f0 := free3 hn 0
  have f1 := free3 hn 1
  have f2 := free3 hn 2
  have f3 := free3 hn 3
  clear hn
  go_wp2_with fail
  exact bodyPost_ret (ret_run _ _ _ _ _ _ _ rfl (put4 HA3.out.2 _ _ _ _)) rfl ⟨rfl, bel4 HA3.out.1.2 (by omega) _ _ _ _⟩
set_option maxRecDepth 100000 in
set_option maxHeartbeats 2000000 in
theorem run_78f (k n o : Int) (s : List UInt8) (HV : Hid (validV k s = true)) (hs : s.length ≤ 9223372036854774000) (x : Int) (HI : Hid (intV k n s = (x, 0))) (hx : (x == 0) = false) (w : World) : Calls Tryd.prog 7 #[.int .i64 78, valV k n s o] w (CvPost w ((valV 1 (topB false) [] 0, 0))) := by
  have HA0 := Lib.hid (CAt.start w k n s o)
  have hsg : IntKind.u64.signed = false := rfl
  obtain ⟨b0, b1, b2, b3⟩ := HA0.out.1.cells
  go_enter Tryd.func7, Tryd.ntmps7
  go_wp2_with fail
  ((with_reducible refine (rvalid_is k n o s true HV _ (by omega)).mono ?_))
  rintro e wz ⟨rfl, hb⟩
  have HA1 := Lib.hid (HA0.out.below hb)
  clear hb HA0 b0 b1 b2 b3
  obtain ⟨b0, b1, b2, b3⟩ := HA1.out.1.cells
  go_wp2_with fail
  ((with_reducible refine (rinteger_is k n o s x 0 HI _ (by omega)).mono ?_))
  rintro e wz ⟨rfl, hb⟩
  have HA2 := Lib.hid (HA1.out.below hb)
  clear hb HA1 b0 b1 b2 b3
  go_wp2_with fail
  ((with_reducible refine (bool_false _).mono ?_))
  rintro e wz ⟨rfl, hb⟩
  have HA3 := Lib.hid (HA2.out.below hb)
  clear hb HA2
  have hn := HA3.out.2
  obtain ⟨c0, c1, c2, c3⟩ := cells4 hn
  have f0 := free3 hn 0
  have f1 := free3 hn 1
  have f2 := free3 hn 2
  have f3 := free3 hn 3
  clear hn
  go_wp2_with fail
  exact bodyPost_ret (ret_run _ _ _ _ _ _ _ rfl (put4 HA3.out.2 _ _ _ _)) rfl ⟨rfl, bel4 HA3.out.1.2 (by omega) _ _ _ _⟩
set_option maxRecDepth 100000 in
set_option maxHeartbeats 2000000 in
theorem run_79e (k n o : Int) (s : List UInt8) (HV : Hid (validV k s = true)) (hs : s.length ≤ 9223372036854774000) (h2 : (k != 2) = true) (h3 : (k != 3) = true) (w : World) : Calls Tryd.prog 7 #[.int .i64 79, valV k n s o] w (CvPost w (badV 10)) := by
  have HA0 := Lib.hid (CAt.start w k n s o)
  have hsg : IntKind.u64.signed = false := rfl
  obtain ⟨b0, b1, b2, b3⟩ := HA0.out.1.cells
  go_enter Tryd.func7, Tryd.ntmps7
  go_wp2_with fail
  ((with_reducible refine (rvalid_is k n o s true HV _ (by omega)).mono ?_))
  rintro e wz ⟨rfl, hb⟩
  have HA1 := Lib.hid (HA0.out.below hb)
  clear hb HA0 b0 b1 b2 b3
  obtain ⟨b0, b1, b2, b3⟩ := HA1.out.1.cells
  have h2' : (k == 2) = false := by simpa [bne] using h2
  have h3' : (k == 3) = false := by simpa [bne] using h3
  have hn := HA1.out.2
  obtain ⟨c0, c1, c2, c3⟩ := cells4 hn
  have f0 := free3 hn 0
  have f1 := free3 hn 1
  have f2 := free3 hn 2
  have f3 := free3 hn 3
  clear hn
  go_wp2_with fail
  exact bodyPost_ret (ret_run _ _ _ _ _ _ _ rfl (put4 HA1.out.2 _ _ _ _)) rfl ⟨rfl, bel4 HA1.out.1.2 (by omega) _ _ _ _⟩
set_option maxRecDepth 100000 in
set_option maxHeartbeats 2000000 in
theorem run_79_2 (n o : Int) (s : List UInt8) (HV : Hid (validV 2 s = true)) (hs : s.length ≤ 9223372036854774000) (w : World) : Calls Tryd.prog 7 #[.int .i64 79, valV 2 n s o] w (CvPost w ((valV 1 s.length [] 0, 0))) := by
  have hw : IntKind.u64.wrap (s.length : Int) = (s.length : Int) := IntWalk.u64_in _ ⟨by omega, by omega⟩
  have HA0 := Lib.hid (CAt.start w 2 n s o)
  have hsg : IntKind.u64.signed = false := rfl
  obtain ⟨b0, b1, b2, b3⟩ := HA0.out.1.cells
  go_enter Tryd.func7, Tryd.ntmps7
  go_wp2_with fail
  ((with_reducible refine (rvalid_is 2 n o s true HV _ (by omega)).mono ?_))
  rintro e wz ⟨rfl, hb⟩
  have HA1 := Lib.hid (HA0.out.below hb)
  clear hb HA0 b0 b1 b2 b3
  obtain ⟨b0, b1, b2, b3⟩ := HA1.out.1.cells
  go_wp2_with fail
  ((with_reducible refine (number_any (s.length : Int) _).mono ?_))
  rintro e wz ⟨rfl, hb⟩
  have HA2 := Lib.hid (HA1.out.below hb)
  clear hb HA1 b0 b1 b2 b3
  have hn := HA2.out.2
  obtain ⟨c0, c1, c2, c3⟩ := cells4 hn
  have f0 := free3 hn 0
  have f1 := free3 hn 1
  have f2 := free3 hn 2
  have f3 := free3 hn 3
  clear hn
  go_wp2_with fail
  exact bodyPost_ret (ret_run _ _ _ _ _ _ _ rfl (put4 HA2.out.2 _ _ _ _)) rfl ⟨rfl, bel4 HA2.out.1.2 (by omega) _ _ _ _⟩
set_option maxRecDepth 100000 in
set_option maxHeartbeats 2000000 in
theorem run_79_3 (n o : Int) (s : List UInt8) (HV : Hid (validV 3 s = true)) (hs : s.length ≤ 9223372036854774000) (w : World) : Calls Tryd.prog 7 #[.int .i64 79, valV 3 n s o] w (CvPost w ((valV 1 s.length [] 0, 0))) := by
  have hw : IntKind.u64.wrap (s.length : Int) = (s.length : Int) := IntWalk.u64_in _ ⟨by omega, by omega⟩
  have HA0 := Lib.hid (CAt.start w 3 n s o)
  have hsg : IntKind.u64.signed = false := rfl
  obtain ⟨b0, b1, b2, b3⟩ := HA0.out.1.cells
  go_enter Tryd.func7, Tryd.ntmps7
  go_wp2_with fail
  ((with_reducible refine (rvalid_is 3 n o s true HV _ (by omega)).mono ?_))
  rintro e wz ⟨rfl, hb⟩
  have HA1 := Lib.hid (HA0.out.below hb)
  clear hb HA0 b0 b1 b2 b3
  obtain ⟨b0, b1, b2, b3⟩ := HA1.out.1.cells
  go_wp2_with fail
  ((with_reducible refine (number_any (s.length : Int) _).mono ?_))
  rintro e wz ⟨rfl, hb⟩
  have HA2 := Lib.hid (HA1.out.below hb)
  clear hb HA1 b0 b1 b2 b3
  have hn := HA2.out.2
  obtain ⟨c0, c1, c2, c3⟩ := cells4 hn
  have f0 := free3 hn 0
  have f1 := free3 hn 1
  have f2 := free3 hn 2
  have f3 := free3 hn 3
  clear hn
  go_wp2_with fail
  exact bodyPost_ret (ret_run _ _ _ _ _ _ _ rfl (put4 HA2.out.2 _ _ _ _)) rfl ⟨rfl, bel4 HA2.out.1.2 (by omega) _ _ _ _⟩
set_option maxRecDepth 100000 in
set_option maxHeartbeats 2000000 in
theorem run_80 (k n o : Int) (s : List UInt8) (HV : Hid (validV k s = true)) (hs : s.length ≤ 9223372036854774000) (a b c er : Int) (t : List UInt8) (H : ∀ w, Calls Tryd.prog 34 #[valV k n s o] w (CvPost w (valV a b t c, er))) (w : World) : Calls Tryd.prog 7 #[.int .i64 80, valV k n s o] w (CvPost w ((valV a b t c, er))) := by
  have HA0 := Lib.hid (CAt.start w k n s o)
  have hsg : IntKind.u64.signed = false := rfl
  obtain ⟨b0, b1, b2, b3⟩ := HA0.out.1.cells
  go_enter Tryd.func7, Tryd.ntmps7
  go_wp2_with fail
  ((with_reducible refine (rvalid_is k n o s true HV _ (by omega)).mono ?_))
  rintro e wz ⟨rfl, hb⟩
  have HA1 := Lib.hid (HA0.out.below hb)
  clear hb HA0 b0 b1 b2 b3
  obtain ⟨b0, b1, b2, b3⟩ := HA1.out.1.cells
  go_wp2_with fail
  ((with_reducible refine (H _).mono ?_))
  rintro e wz ⟨rfl, hb⟩
  have HA2 := Lib.hid (HA1.out.below hb)
  clear hb HA1 b0 b1 b2 b3
  have hn := HA2.out.2
  obtain ⟨c0, c1, c2, c3⟩ := cells4 hn
  have f0 := free3 hn 0
  have f1 := free3 hn 1
  have f2 := free3 hn 2
  have f3 := free3 hn 3
  clear hn
  go_wp2_with fail
  exact bodyPost_ret (ret_run _ _ _ _ _ _ _ rfl (put4 HA2.out.2 _ _ _ _)) rfl ⟨rfl, bel4 HA2.out.1.2 (by omega) _ _ _ _⟩
set_option maxRecDepth 100000 in
set_option maxHeartbeats 2000000 in
theorem run_81 (k n o : Int) (s : List UInt8) (HV : Hid (validV k s = true)) (hs : s.length ≤ 9223372036854774000) (a b c er : Int) (t : List UInt8) (H : ∀ w, Calls Tryd.prog 35 #[valV k n s o, .int .i64 3] w (CvPost w (valV a b t c, er))) (w : World) : Calls Tryd.prog 7 #[.int .i64 81, valV k n s o] w (CvPost w ((valV a b t c, er))) := by
  have HA0 := Lib.hid (CAt.start w k n s o)
  have hsg : IntKind.u64.signed = false := rfl
  obtain ⟨b0, b1, b2, b3⟩ := HA0.out.1.cells
  go_enter Tryd.func7, Tryd.ntmps7
  go_wp2_with fail
  ((with_reducible refine (rvalid_is k n o s true HV _ (by omega)).mono ?_))
  rintro e wz ⟨rfl, hb⟩
  have HA1 := Lib.hid (HA0.out.below hb)
  clear hb HA0 b0 b1 b2 b3
  obtain ⟨b0, b1, b2, b3⟩ := HA1.out.1.cells
  go_wp2_with fail
  ((with_reducible refine (H _).mono ?_))
  rintro e wz ⟨rfl, hb⟩
  have HA2 := Lib.hid (HA1.out.below hb)
  clear hb HA1 b0 b1 b2 b3
  have hn := HA2.out.2
  obtain ⟨c0, c1, c2, c3⟩ := cells4 hn
  have f0 := free3 hn 0
  have f1 := free3 hn 1
  have f2 := free3 hn 2
  have f3 := free3 hn 3
  clear hn
  go_wp2_with fail
  exact bodyPost_ret (ret_run _ _ _ _ _ _ _ rfl (put4 HA2.out.2 _ _ _ _)) rfl ⟨rfl, bel4 HA2.out.1.2 (by omega) _ _ _ _⟩
set_option maxRecDepth 100000 in
set_option maxHeartbeats 2000000 in
theorem run_82 (k n o : Int) (s : List UInt8) (HV : Hid (validV k s = true)) (hs : s.length ≤ 9223372036854774000) (a b c er : Int) (t : List UInt8) (H : ∀ w, Calls Tryd.prog 36 #[valV k n s o, .string ⟨#[48, 120]⟩, .int .u64 16, .int .i64 2] w (CvPost w (valV a b t c, er))) (w : World) : Calls Tryd.prog 7 #[.int .i64 82, valV k n s o] w (CvPost w ((valV a b t c, er))) := by
  have HA0 := Lib.hid (CAt.start w k n s o)
  have hsg : IntKind.u64.signed = false := rfl
  obtain ⟨b0, b1, b2, b3⟩ := HA0.out.1.cells
  go_enter Tryd.func7, Tryd.ntmps7
  go_wp2_with fail
  ((with_reducible refine (rvalid_is k n o s true HV _ (by omega)).mono ?_))
  rintro e wz ⟨rfl, hb⟩
  have HA1 := Lib.hid (HA0.out.below hb)
  clear hb HA0 b0 b1 b2 b3
  obtain ⟨b0, b1, b2, b3⟩ := HA1.out.1.cells
  go_wp2_with fail
  ((with_reducible refine (H _).mono ?_))
  rintro e wz ⟨rfl, hb⟩
  have HA2 := Lib.hid (HA1.out.below hb)
  clear hb HA1 b0 b1 b2 b3
  have hn := HA2.out.2
  obtain ⟨c0, c1, c2, c3⟩ := cells4 hn
  have f0 := free3 hn 0
  have f1 := free3 hn 1
  have f2 := free3 hn 2
  have f3 := free3 hn 3
  clear hn
  go_wp2_with fail
  exact bodyPost_ret (ret_run _ _ _ _ _ _ _ rfl (put4 HA2.out.2 _ _ _ _)) rfl ⟨rfl, bel4 HA2.out.1.2 (by omega) _ _ _ _⟩
set_option maxRecDepth 100000 in
set_option maxHeartbeats 2000000 in
theorem run_83 (k n o : Int) (s : List UInt8) (HV : Hid (validV k s = true)) (hs : s.length ≤ 9223372036854774000) (a b c er : Int) (t : List UInt8) (H : ∀ w, Calls Tryd.prog 36 #[valV k n s o, .string ⟨#[]⟩, .int .u64 10, .int .i64 1] w (CvPost w (valV a b t c, er))) (w : World) : Calls Tryd.prog 7 #[.int .i64 83, valV k n s o] w (CvPost w ((valV a b t c, er))) := by
  have HA0 := Lib.hid (CAt.start w k n s o)
  have hsg : IntKind.u64.signed = false := rfl
  obtain ⟨b0, b1, b2, b3⟩ := HA0.out.1.cells
  go_enter Tryd.func7, Tryd.ntmps7
  go_wp2_with fail
  ((with_reducible refine (rvalid_is k n o s true HV _ (by omega)).mono ?_))
  rintro e wz ⟨rfl, hb⟩
  have HA1 := Lib.hid (HA0.out.below hb)
  clear hb HA0 b0 b1 b2 b3
  obtain ⟨b0, b1, b2, b3⟩ := HA1.out.1.cells
  go_wp2_with fail
  ((with_reducible refine (H _).mono ?_))
  rintro e wz ⟨rfl, hb⟩
  have HA2 := Lib.hid (HA1.out.below hb)
  clear hb HA1 b0 b1 b2 b3
  have hn := HA2.out.2
  obtain ⟨c0, c1, c2, c3⟩ := cells4 hn
  have f0 := free3 hn 0
  have f1 := free3 hn 1
  have f2 := free3 hn 2
  have f3 := free3 hn 3
  clear hn
  go_wp2_with fail
  exact bodyPost_ret (ret_run _ _ _ _ _ _ _ rfl (put4 HA2.out.2 _ _ _ _)) rfl ⟨rfl, bel4 HA2.out.1.2 (by omega) _ _ _ _⟩
set_option maxRecDepth 100000 in
set_option maxHeartbeats 2000000 in
theorem run_else (op : Int) (k n o : Int) (s : List UInt8) (HV : Hid (validV k s = true)) (hs : s.length ≤ 9223372036854774000) (h77 : (op == 77) = false) (h78 : (op == 78) = false) (h79 : (op == 79) = false) (h80 : (op == 80) = false) (h81 : (op == 81) = false) (h82 : (op == 82) = false) (h83 : (op == 83) = false) (w : World) : Calls Tryd.prog 7 #[.int .i64 op, valV k n s o] w (CvPost w (badV 1)) := by
  have HA0 := Lib.hid (CAt.start w k n s o)
  have hsg : IntKind.u64.signed = false := rfl
  obtain ⟨b0, b1, b2, b3⟩ := HA0.out.1.cells
  go_enter Tryd.func7, Tryd.ntmps7
  go_wp2_with fail
  ((with_reducible refine (rvalid_is k n o s true HV _ (by omega)).mono ?_))
  rintro e wz ⟨rfl, hb⟩
  have HA1 := Lib.hid (HA0.out.below hb)
  clear hb HA0 b0 b1 b2 b3
  obtain ⟨b0, b1, b2, b3⟩ := HA1.out.1.cells
  have hn := HA1.out.2
  obtain ⟨c0, c1, c2, c3⟩ := cells4 hn
  have f0 := free3 hn 0
  have f1 := free3 hn 1
  have f2 := free3 hn 2
  have f3 := free3 hn 3
  clear hn
  go_wp2_with fail
  exact bodyPost_ret (ret_run _ _ _ _ _ _ _ rfl (put4 HA1.out.2 _ _ _ _)) rfl ⟨rfl, bel4 HA1.out.1.2 (by omega) _ _ _ _⟩
end Go.Proofs.YteifmjhkedhomaaDoor