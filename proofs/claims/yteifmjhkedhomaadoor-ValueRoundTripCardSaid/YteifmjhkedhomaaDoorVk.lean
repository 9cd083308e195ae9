/- Convert, of the layer: the walk. -/
import Derived.Test.YteifmjhkedhomaaDoorVj
namespace Go.Proofs.YteifmjhkedhomaaDoor
open Go.RowKit
attribute [local go_sem] ByteArray.mk_append_mk bs_get bs_cut bs_end conv1 conv2

/-- textResult, its world left open. -/
theorem text_b (k : Int) (w : World) : Calls Tryd.prog 21 #[.int .i64 k] w fun e w' => ∃ b, e = .returned (.func (.func 46) #[] #[.pointer (some ⟨b, 0, none⟩)]) ∧ Below w.heap.size w w' ∧ w'.heap[b]? = some (.cells #[.int .i64 k] 3 (0, 0)) := by
  refine (text_any k w).mono ?_
  rintro e w1 ⟨rfl, rfl⟩
  exact ⟨_, rfl, (Below.refl _ _).alloc (Nat.le_refl _) _, heap_alloc_new w _⟩
theorem ret_cv (tmps : Array Value) (w : World) (b : Nat) (c0 c1 c2 c3 : Value) (h2 : tmps.getD 4 undef = .pointer (some ⟨b, 0, none⟩)) (hb : w.heap[b]? = some (.cells #[c0, c1, c2, c3] 24 (0, 0))) :
    (results Tryd.f42 tmps).run Tryd.prog w = .ok (.tuple #[.agg #[c0, c1, c2, c3], tmps.getD 5 undef]) w := by
  obtain ⟨e0, e1, e2, e3⟩ := cells4 hb
  have h2' : tmps[4]?.getD undef = .pointer (some ⟨b, 0, none⟩) := by rw [← h2]; simp
  simp [results]
  go_simp
theorem CAt.drew {w wr : World} {k n : Int} {s : List UInt8} {o : Int} (h : CAt w wr k n s o) : CAt w wr.drew k n s o := ⟨⟨h.1.1, h.1.2.drew⟩, h.2⟩
theorem cell1 {w : World} {b t : Nat} {c0 : Value} (h : w.heap[b]? = some (.cells #[c0] t (0, 0))) : w.cell? ⟨b, 0, none⟩ = some c0 := by
  exact (cell_of_row w _ 0 _ _ _ h).trans rfl

set_option maxRecDepth 100000 in
set_option maxHeartbeats 2000000 in
theorem convert_2 (k n o : Int) (s : List UInt8) (w : World) (hs : s.length ≤ 9223372036854774000) (hn0 : 0 ≤ n) (hv : validV k s = true) : Calls Tryd.prog 42 #[valV k n s o, .int .i64 2] w (CvPost w (textE 2 (strOfV k n s))) := by
  have HA0 := Lib.hid (CAt.start w k n s o)
  obtain ⟨b0, b1, b2, b3⟩ := HA0.out.1.cells
  have HV := Lib.hid hv
  clear hv
  obtain ⟨⟨x, er⟩, hr⟩ : ∃ r, strOfV k n s = r := ⟨_, rfl⟩
  have HI := Lib.hid hr
  clear hr
  by_cases he : er = 0
  · subst he
    go_enter Tryd.func42, Tryd.ntmps42
    go_wp2_with fail
    ((with_reducible refine (valid_is k n o s true HV _ (by omega)).mono ?_))
    rintro e w1 ⟨rfl, hb1⟩
    have HA := Lib.hid (HA0.out.below hb1)
    clear hb1 HA0 b0 b1 b2 b3
    obtain ⟨b0, b1, b2, b3⟩ := HA.out.1.cells
    go_upto_region 7 with fail
    have HC : Hid True := Lib.hid trivial
    have HA2 := HA
    clear HA b0 b1 b2 b3
    have HA := Lib.hid HA2.out.drew
    clear HA2
    obtain ⟨b0, b1, b2, b3⟩ := HA.out.1.cells
    go_region_with (first
      | (go_at_call 21; ((with_reducible refine (text_b _ _).mono ?_)); rintro e w2 ⟨b, rfl, hb2, hc2⟩; have HA2 := HA; clear HA; have HA := Lib.hid (HA2.out.below hb2); clear HA2 b0 b1 b2 b3; clear hb2 HC; have HC := Lib.hid hc2; clear hc2; obtain ⟨b0, b1, b2, b3⟩ := HA.out.1.cells)
      | (go_at_call 12; ((with_reducible refine (string_any k n o s _ (by omega) hn0).mono ?_)); rintro e w2 ⟨rfl, hb2⟩; rw [HI.out]; have HA2 := HA; clear HA; have HA := Lib.hid (HA2.out.below hb2); clear HA2 b0 b1 b2 b3; have HC2 := HC; clear HC; (first | (have HC := Lib.hid (blk_below HC2.out hb2)) | (have HC := HC2)); clear HC2 hb2; obtain ⟨b0, b1, b2, b3⟩ := HA.out.1.cells)
      | (go_at_call 46; ((with_reducible refine (text1_ok 2 _ _ _ (cell1 HC.out)).mono ?_)); rintro e w2 ⟨rfl, hb2⟩; have HA2 := HA; clear HA; have HA := Lib.hid (HA2.out.below hb2); clear HA2 b0 b1 b2 b3; clear hb2; have hn := HA.out.2; obtain ⟨c0, c1, c2, c3⟩ := cells4 hn; have f0 := free3 hn 0; have f1 := free3 hn 1; have f2 := free3 hn 2; have f3 := free3 hn 3; clear hn))
    all_goals (go_wp2_with fail; exact bodyPost_ret (ret_cv _ _ _ _ _ _ _ rfl (put4 HA.out.2 _ _ _ _)) rfl ⟨by rw [HI.out]; rfl, bel4 HA.out.1.2 (by omega) _ _ _ _⟩)
  · have he' : (er != 0) = true := by rw [bne_iff_ne]; exact he
    have HT : Hid (textE 2 (x, er) = badV er) := Lib.hid (if_neg he)
    clear he
    go_enter Tryd.func42, Tryd.ntmps42
    go_wp2_with fail
    ((with_reducible refine (valid_is k n o s true HV _ (by omega)).mono ?_))
    rintro e w1 ⟨rfl, hb1⟩
    have HA := Lib.hid (HA0.out.below hb1)
    clear hb1 HA0 b0 b1 b2 b3
    obtain ⟨b0, b1, b2, b3⟩ := HA.out.1.cells
    go_upto_region 7 with fail
    have HC : Hid True := Lib.hid trivial
    have HA2 := HA
    clear HA b0 b1 b2 b3
    have HA := Lib.hid HA2.out.drew
    clear HA2
    obtain ⟨b0, b1, b2, b3⟩ := HA.out.1.cells
    go_region_with (first
      | (go_at_call 21; ((with_reducible refine (text_b _ _).mono ?_)); rintro e w2 ⟨b, rfl, hb2, hc2⟩; have HA2 := HA; clear HA; have HA := Lib.hid (HA2.out.below hb2); clear HA2 b0 b1 b2 b3; clear hb2 HC; have HC := Lib.hid hc2; clear hc2; obtain ⟨b0, b1, b2, b3⟩ := HA.out.1.cells)
      | (go_at_call 12; ((with_reducible refine (string_any k n o s _ (by omega) hn0).mono ?_)); rintro e w2 ⟨rfl, hb2⟩; rw [HI.out]; have HA2 := HA; clear HA; have HA := Lib.hid (HA2.out.below hb2); clear HA2 b0 b1 b2 b3; have HC2 := HC; clear HC; (first | (have HC := Lib.hid (blk_below HC2.out hb2)) | (have HC := HC2)); clear HC2 hb2; obtain ⟨b0, b1, b2, b3⟩ := HA.out.1.cells)
      | (go_at_call 46; ((with_reducible refine (text1_err er x _ _ he').mono ?_)); rintro e w2 ⟨rfl, hb2⟩; have HA2 := HA; clear HA; have HA := Lib.hid (HA2.out.below hb2); clear HA2 b0 b1 b2 b3; clear hb2; have hn := HA.out.2; obtain ⟨c0, c1, c2, c3⟩ := cells4 hn; have f0 := free3 hn 0; have f1 := free3 hn 1; have f2 := free3 hn 2; have f3 := free3 hn 3; clear hn))
    all_goals (go_wp2_with fail; exact bodyPost_ret (ret_cv _ _ _ _ _ _ _ rfl (put4 HA.out.2 _ _ _ _)) rfl ⟨by rw [HI.out, HT.out]; rfl, bel4 HA.out.1.2 (by omega) _ _ _ _⟩)
set_option maxRecDepth 100000 in
set_option maxHeartbeats 2000000 in
theorem convert_3 (k n o : Int) (s : List UInt8) (w : World) (hs : s.length ≤ 9223372036854774000) (hn0 : 0 ≤ n) (hv : validV k s = true) : Calls Tryd.prog 42 #[valV k n s o, .int .i64 3] w (CvPost w (textE 3 (bufV k n s))) := by
  have HA0 := Lib.hid (CAt.start w k n s o)
  obtain ⟨b0, b1, b2, b3⟩ := HA0.out.1.cells
  have HV := Lib.hid hv
  clear hv
  obtain ⟨⟨x, er⟩, hr⟩ : ∃ r, bufV k n s = r := ⟨_, rfl⟩
  have HI := Lib.hid hr
  clear hr
  by_cases he : er = 0
  · subst he
    go_enter Tryd.func42, Tryd.ntmps42
    go_wp2_with fail
    ((with_reducible refine (valid_is k n o s true HV _ (by omega)).mono ?_))
    rintro e w1 ⟨rfl, hb1⟩
    have HA := Lib.hid (HA0.out.below hb1)
    clear hb1 HA0 b0 b1 b2 b3
    obtain ⟨b0, b1, b2, b3⟩ := HA.out.1.cells
    go_upto_region 9 with fail
    have HC : Hid True := Lib.hid trivial
    have HA2 := HA
    clear HA b0 b1 b2 b3
    have HA := Lib.hid HA2.out.drew
    clear HA2
    obtain ⟨b0, b1, b2, b3⟩ := HA.out.1.cells
    go_region_with (first
      | (go_at_call 21; ((with_reducible refine (text_b _ _).mono ?_)); rintro e w2 ⟨b, rfl, hb2, hc2⟩; have HA2 := HA; clear HA; have HA := Lib.hid (HA2.out.below hb2); clear HA2 b0 b1 b2 b3; clear hb2 HC; have HC := Lib.hid hc2; clear hc2; obtain ⟨b0, b1, b2, b3⟩ := HA.out.1.cells)
      | (go_at_call 13; ((with_reducible refine (buffer_any k n o s _ hs hn0).mono ?_)); rintro e w2 ⟨rfl, hb2⟩; rw [HI.out]; have HA2 := HA; clear HA; have HA := Lib.hid (HA2.out.below hb2); clear HA2 b0 b1 b2 b3; have HC2 := HC; clear HC; (first | (have HC := Lib.hid (blk_below HC2.out hb2)) | (have HC := HC2)); clear HC2 hb2; obtain ⟨b0, b1, b2, b3⟩ := HA.out.1.cells)
      | (go_at_call 46; ((with_reducible refine (text1_ok 3 _ _ _ (cell1 HC.out)).mono ?_)); rintro e w2 ⟨rfl, hb2⟩; have HA2 := HA; clear HA; have HA := Lib.hid (HA2.out.below hb2); clear HA2 b0 b1 b2 b3; clear hb2; have hn := HA.out.2; obtain ⟨c0, c1, c2, c3⟩ := cells4 hn; have f0 := free3 hn 0; have f1 := free3 hn 1; have f2 := free3 hn 2; have f3 := free3 hn 3; clear hn))
    all_goals (go_wp2_with fail; exact bodyPost_ret (ret_cv _ _ _ _ _ _ _ rfl (put4 HA.out.2 _ _ _ _)) rfl ⟨by rw [HI.out]; rfl, bel4 HA.out.1.2 (by omega) _ _ _ _⟩)
  · have he' : (er != 0) = true := by rw [bne_iff_ne]; exact he
    have HT : Hid (textE 3 (x, er) = badV er) := Lib.hid (if_neg he)
    clear he
    go_enter Tryd.func42, Tryd.ntmps42
    go_wp2_with fail
    ((with_reducible refine (valid_is k n o s true HV _ (by omega)).mono ?_))
    rintro e w1 ⟨rfl, hb1⟩
    have HA := Lib.hid (HA0.out.below hb1)
    clear hb1 HA0 b0 b1 b2 b3
    obtain ⟨b0, b1, b2, b3⟩ := HA.out.1.cells
    go_upto_region 9 with fail
    have HC : Hid True := Lib.hid trivial
    have HA2 := HA
    clear HA b0 b1 b2 b3
    have HA := Lib.hid HA2.out.drew
    clear HA2
    obtain ⟨b0, b1, b2, b3⟩ := HA.out.1.cells
    go_region_with (first
      | (go_at_call 21; ((with_reducible refine (text_b _ _).mono ?_)); rintro e w2 ⟨b, rfl, hb2, hc2⟩; have HA2 := HA; clear HA; have HA := Lib.hid (HA2.out.below hb2); clear HA2 b0 b1 b2 b3; clear hb2 HC; have HC := Lib.hid hc2; clear hc2; obtain ⟨b0, b1, b2, b3⟩ := HA.out.1.cells)
      | (go_at_call 13; ((with_reducible refine (buffer_any k n o s _ hs hn0).mono ?_)); rintro e w2 ⟨rfl, hb2⟩; rw [HI.out]; have HA2 := HA; clear HA; have HA := Lib.hid (HA2.out.below hb2); clear HA2 b0 b1 b2 b3; have HC2 := HC; clear HC; (first | (have HC := Lib.hid (blk_below HC2.out hb2)) | (have HC := HC2)); clear HC2 hb2; obtain ⟨b0, b1, b2, b3⟩ := HA.out.1.cells)
      | (go_at_call 46; ((with_reducible refine (text1_err er x _ _ he').mono ?_)); rintro e w2 ⟨rfl, hb2⟩; have HA2 := HA; clear HA; have HA := Lib.hid (HA2.out.below hb2); clear HA2 b0 b1 b2 b3; clear hb2; have hn := HA.out.2; obtain ⟨c0, c1, c2, c3⟩ := cells4 hn; have f0 := free3 hn 0; have f1 := free3 hn 1; have f2 := free3 hn 2; have f3 := free3 hn 3; clear hn))
    all_goals (go_wp2_with fail; exact bodyPost_ret (ret_cv _ _ _ _ _ _ _ rfl (put4 HA.out.2 _ _ _ _)) rfl ⟨by rw [HI.out, HT.out]; rfl, bel4 HA.out.1.2 (by omega) _ _ _ _⟩)
set_option maxRecDepth 100000 in
set_option maxHeartbeats 2000000 in
theorem convert_1 (k n o : Int) (s : List UInt8) (w : World) (hs : s.length ≤ 9223372036854774000) (hv : validV k s = true) : Calls Tryd.prog 42 #[valV k n s o, .int .i64 1] w (CvPost w (intE (intV k n s))) := by
  have HA0 := Lib.hid (CAt.start w k n s o)
  obtain ⟨b0, b1, b2, b3⟩ := HA0.out.1.cells
  have HV := Lib.hid hv
  clear hv
  obtain ⟨⟨x, er⟩, hr⟩ : ∃ r, intV k n s = r := ⟨_, rfl⟩
  have HI := Lib.hid hr
  clear hr
  by_cases he : er = 0
  · subst he
    go_enter Tryd.func42, Tryd.ntmps42
    go_wp2_with fail
    ((with_reducible refine (valid_is k n o s true HV _ (by omega)).mono ?_))
    rintro e w1 ⟨rfl, hb1⟩
    have HA := Lib.hid (HA0.out.below hb1)
    clear hb1 HA0 b0 b1 b2 b3
    obtain ⟨b0, b1, b2, b3⟩ := HA.out.1.cells
    go_wp2_with fail
    ((with_reducible refine (integer_any k n o s _ (by omega)).mono ?_))
    rintro e w2 ⟨rfl, hb2⟩
    rw [HI.out]
    (have HA2 := HA; clear HA; have HA := Lib.hid (HA2.out.below hb2); clear HA2 b0 b1 b2 b3; clear hb2; obtain ⟨b0, b1, b2, b3⟩ := HA.out.1.cells)
    go_wp2_with fail
    ((with_reducible refine (intRes_ok x _).mono ?_))
    rintro e w3 ⟨rfl, hb2⟩
    (have HA2 := HA; clear HA; have HA := Lib.hid (HA2.out.below hb2); clear HA2 b0 b1 b2 b3; clear hb2; have hn := HA.out.2; obtain ⟨c0, c1, c2, c3⟩ := cells4 hn; have f0 := free3 hn 0; have f1 := free3 hn 1; have f2 := free3 hn 2; have f3 := free3 hn 3; clear hn)
    go_wp2_with fail
    exact bodyPost_ret (ret_cv _ _ _ _ _ _ _ rfl (put4 HA.out.2 _ _ _ _)) rfl ⟨by rw [HI.out]; rfl, bel4 HA.out.1.2 (by omega) _ _ _ _⟩
  · have he' : (er != 0) = true := by rw [bne_iff_ne]; exact he
    have HT : Hid (intE (x, er) = badV er) := Lib.hid (if_neg he)
    clear he
    go_enter Tryd.func42, Tryd.ntmps42
    go_wp2_with fail
    ((with_reducible refine (valid_is k n o s true HV _ (by omega)).mono ?_))
    rintro e w1 ⟨rfl, hb1⟩
    have HA := Lib.hid (HA0.out.below hb1)
    clear hb1 HA0 b0 b1 b2 b3
    obtain ⟨b0, b1, b2, b3⟩ := HA.out.1.cells
    go_wp2_with fail
    ((with_reducible refine (integer_any k n o s _ (by omega)).mono ?_))
    rintro e w2 ⟨rfl, hb2⟩
    rw [HI.out]
    (have HA2 := HA; clear HA; have HA := Lib.hid (HA2.out.below hb2); clear HA2 b0 b1 b2 b3; clear hb2; obtain ⟨b0, b1, b2, b3⟩ := HA.out.1.cells)
    go_wp2_with fail
    ((with_reducible refine (intRes_err x er _ he').mono ?_))
    rintro e w3 ⟨rfl, hb2⟩
    (have HA2 := HA; clear HA; have HA := Lib.hid (HA2.out.below hb2); clear HA2 b0 b1 b2 b3; clear hb2; have hn := HA.out.2; obtain ⟨c0, c1, c2, c3⟩ := cells4 hn; have f0 := free3 hn 0; have f1 := free3 hn 1; have f2 := free3 hn 2; have f3 := free3 hn 3; clear hn)
    go_wp2_with fail
    exact bodyPost_ret (ret_cv _ _ _ _ _ _ _ rfl (put4 HA.out.2 _ _ _ _)) rfl ⟨by rw [HI.out, HT.out]; rfl, bel4 HA.out.1.2 (by omega) _ _ _ _⟩
set_option maxRecDepth 100000 in
set_option maxHeartbeats 2000000 in
theorem convert_bad (k n o kind : Int) (s : List UInt8) (w : World) (hs : s.length ≤ 9223372036854774000) (hv : validV k s = false) : Calls Tryd.prog 42 #[valV k n s o, .int .i64 kind] w (CvPost w (badV 1)) := by
  have HA0 := Lib.hid (CAt.start w k n s o)
  obtain ⟨b0, b1, b2, b3⟩ := HA0.out.1.cells
  have HV := Lib.hid hv
  clear hv
  go_enter Tryd.func42, Tryd.ntmps42
  go_wp2_with fail
  ((with_reducible refine (valid_is k n o s false HV _ (by omega)).mono ?_))
  rintro e w1 ⟨rfl, hb1⟩
  have HA := Lib.hid (HA0.out.below hb1)
  clear hb1 HA0 b0 b1 b2 b3
  obtain ⟨b0, b1, b2, b3⟩ := HA.out.1.cells
  clear b0 b1 b2 b3
  (have hn := HA.out.2; obtain ⟨c0, c1, c2, c3⟩ := cells4 hn; have f0 := free3 hn 0; have f1 := free3 hn 1; have f2 := free3 hn 2; have f3 := free3 hn 3; clear hn)
  go_wp2_with fail
  exact bodyPost_ret (ret_cv _ _ _ _ _ _ _ rfl (put4 HA.out.2 _ _ _ _)) rfl ⟨by rfl, bel4 HA.out.1.2 (by omega) _ _ _ _⟩
set_option maxRecDepth 100000 in
set_option maxHeartbeats 2000000 in
theorem convert_else (k n o kind : Int) (s : List UInt8) (w : World) (hs : s.length ≤ 9223372036854774000) (hv : validV k s = true) (h1 : kind ≠ 1) (h2 : kind ≠ 2) (h3 : kind ≠ 3) : Calls Tryd.prog 42 #[valV k n s o, .int .i64 kind] w (CvPost w (if k = kind then (cleanV k n s o, 0) else badV 10)) := by
  have HA0 := Lib.hid (CAt.start w k n s o)
  obtain ⟨b0, b1, b2, b3⟩ := HA0.out.1.cells
  have HV := Lib.hid hv
  clear hv
  have e1 : (kind == 1) = false := by rw [beq_eq_false_iff_ne]; exact h1
  have e2 : (kind == 2) = false := by rw [beq_eq_false_iff_ne]; exact h2
  have e3 : (kind == 3) = false := by rw [beq_eq_false_iff_ne]; exact h3
  by_cases hk : k = kind
  · subst hk
    rw [if_pos rfl]
    by_cases h0 : k = 0
    · subst h0
      clear h1 h2 h3
      go_enter Tryd.func42, Tryd.ntmps42
      go_wp2_with fail
      ((with_reducible refine (valid_is 0 n o s true HV _ (by omega)).mono ?_))
      rintro e w1 ⟨rfl, hb1⟩
      have HA := Lib.hid (HA0.out.below hb1)
      clear hb1 HA0 b0 b1 b2 b3
      obtain ⟨b0, b1, b2, b3⟩ := HA.out.1.cells
      clear b0 b1 b2 b3
      obtain ⟨b0, b1, b2, b3⟩ := HA.out.1.cells
      (have hn := HA.out.2; obtain ⟨c0, c1, c2, c3⟩ := cells4 hn; have f0 := free3 hn 0; have f1 := free3 hn 1; have f2 := free3 hn 2; have f3 := free3 hn 3; clear hn)
      go_wp2_with fail
      exact bodyPost_ret (ret_cv _ _ _ _ _ _ _ rfl (put4 HA.out.2 _ _ _ _)) rfl ⟨by rfl, bel4 HA.out.1.2 (by omega) _ _ _ _⟩
    · have e0 : (k == 0) = false := by rw [beq_eq_false_iff_ne]; exact h0
      have HK : Hid (cleanV k n s o = valV k 0 [] o) := Lib.hid (by unfold cleanV; rw [if_neg h1, if_neg (by omega), if_neg h0])
      clear h0 h1 h2 h3
      go_enter Tryd.func42, Tryd.ntmps42
      go_wp2_with fail
      ((with_reducible refine (valid_is k n o s true HV _ (by omega)).mono ?_))
      rintro e w1 ⟨rfl, hb1⟩
      have HA := Lib.hid (HA0.out.below hb1)
      clear hb1 HA0 b0 b1 b2 b3
      obtain ⟨b0, b1, b2, b3⟩ := HA.out.1.cells
      (have hn := HA.out.2; obtain ⟨c0, c1, c2, c3⟩ := cells4 hn; have f0 := free3 hn 0; have f1 := free3 hn 1; have f2 := free3 hn 2; have f3 := free3 hn 3; clear hn)
      go_wp2_with fail
      exact bodyPost_ret (ret_cv _ _ _ _ _ _ _ rfl (put4 HA.out.2 _ _ _ _)) rfl ⟨by rw [HK.out]; rfl, bel4 HA.out.1.2 (by omega) _ _ _ _⟩
  · have ek : (k != kind) = true := by rw [bne_iff_ne]; exact hk
    rw [if_neg hk]
    clear hk h1 h2 h3
    go_enter Tryd.func42, Tryd.ntmps42
    go_wp2_with fail
    ((with_reducible refine (valid_is k n o s true HV _ (by omega)).mono ?_))
    rintro e w1 ⟨rfl, hb1⟩
    have HA := Lib.hid (HA0.out.below hb1)
    clear hb1 HA0 b0 b1 b2 b3
    obtain ⟨b0, b1, b2, b3⟩ := HA.out.1.cells
    (have hn := HA.out.2; obtain ⟨c0, c1, c2, c3⟩ := cells4 hn; have f0 := free3 hn 0; have f1 := free3 hn 1; have f2 := free3 hn 2; have f3 := free3 hn 3; clear hn)
    go_wp2_with fail
    exact bodyPost_ret (ret_cv _ _ _ _ _ _ _ rfl (put4 HA.out.2 _ _ _ _)) rfl ⟨by rfl, bel4 HA.out.1.2 (by omega) _ _ _ _⟩
theorem convert_any (k n o kind : Int) (s : List UInt8) (w : World) (hs : s.length ≤ 9223372036854774000) (hn0 : 0 ≤ n) : Calls Tryd.prog 42 #[valV k n s o, .int .i64 kind] w (CvPost w (cvV k n s o kind)) := by
  cases hv : validV k s
  · have e : cvV k n s o kind = badV 1 := by unfold cvV; rw [if_pos hv]
    rw [e]
    exact convert_bad k n o kind s w hs hv
  · have e : cvV k n s o kind = if kind = 1 then intE (intV k n s) else if kind = 2 then textE 2 (strOfV k n s) else if kind = 3 then textE 3 (bufV k n s) else if k = kind then (cleanV k n s o, 0) else badV 10 := by unfold cvV; rw [if_neg (by rw [hv]; decide)]
    rw [e]
    by_cases h1 : kind = 1
    · subst h1; exact convert_1 k n o s w hs hv
    · by_cases h2 : kind = 2
      · subst h2; exact convert_2 k n o s w hs hn0 hv
      · by_cases h3 : kind = 3
        · subst h3; exact convert_3 k n o s w hs hn0 hv
        · rw [if_neg h1, if_neg h2, if_neg h3]; exact convert_else k n o kind s w hs hv h1 h2 h3
end Go.Proofs.YteifmjhkedhomaaDoor
