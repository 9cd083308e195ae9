/- Unary, whole; ValueUnary: the walk. -/
import Derived.Test.YteifmjhkedhomaaDoorUk
import Derived.Test.YteifmjhkedhomaaDoorVq
namespace Go.Proofs.YteifmjhkedhomaaDoor
open Go.RowKit
set_option linter.unusedVariables false
set_option linter.unusedSimpArgs false
attribute [local go_sem] ByteArray.mk_append_mk bs_get bs_cut bs_end conv1 conv2

theorem un_form (op k n : Int) (s : List UInt8) : ∃ (a b : Int) (t : List UInt8) (c er : Int), unV op k n s = (valV a b t c, er) := by
  unfold unV
  split
  · exact ⟨0, 0, [], 0, 1, rfl⟩
  split
  · unfold notE; split
    · exact ⟨_, _, _, _, _, rfl⟩
    · exact ⟨0, 0, [], 0, _, rfl⟩
  split
  · unfold lnotE; split
    · exact ⟨_, _, _, _, _, rfl⟩
    · exact ⟨0, 0, [], 0, _, rfl⟩
  split
  · split
    · exact ⟨_, _, _, _, _, rfl⟩
    · exact ⟨0, 0, [], 0, _, rfl⟩
  split
  · exact intE_frm _
  split
  · exact textE_frm _ _
  split
  · exact textE_frm _ _
  split
  · exact textE_frm _ _
  · exact ⟨0, 0, [], 0, 1, rfl⟩
theorem not_int (x er : Int) : notE (x, er) = intE (bits .xor .u64 IntKind.u64.max x, er) := rfl
theorem unV_at {op k n : Int} {s : List UInt8} (hv : validV k s = true) : unV op k n s =
    if op = 77 then notE (intV k n s)
    else if op = 78 then lnotE (intV k n s)
    else if op = 79 then (if k = 2 ∨ k = 3 then (valV 1 s.length [] 0, 0) else badV 10)
    else if op = 80 then intE (expV k n s)
    else if op = 81 then textE 3 (bufV k n s)
    else if op = 82 then textE 2 (wrV [48, 120] 16 2 k n s)
    else if op = 83 then textE 2 (wrV [] 10 1 k n s)
    else badV 1 := by unfold unV; rw [if_neg (by rw [hv]; decide)]
theorem unary_any (op k n o : Int) (s : List UInt8) (w : World) (hs : s.length ≤ 9223372036854774000) (hn0 : 0 ≤ n) (hn1 : n ≤ 18446744073709551615) (hT : Tz16 w) (hP : Pow10 w) :
    Calls Tryd.prog 6 #[.int .i64 op, valV k n s o] w (CvPost w (unV op k n s)) := by
  cases hv : validV k s
  · rw [show unV op k n s = badV 1 by unfold unV; rw [if_pos hv]]
    exact un_bad op k n o s (Lib.hid hv) hs w
  have HV := Lib.hid hv
  rw [unV_at hv]
  by_cases h77 : op = 77
  · subst h77
    rw [if_pos rfl]
    obtain ⟨⟨x, er⟩, hr⟩ : ∃ r, intV k n s = r := ⟨_, rfl⟩
    rw [hr, not_int]
    obtain ⟨a, b, t, c, e2, h⟩ := intE_frm (bits .xor .u64 IntKind.u64.max x, er)
    rw [h]
    exact un_77 k n o s HV hs x er a b c e2 t (Lib.hid hr) (Lib.hid h) w
  rw [if_neg h77]
  by_cases h78 : op = 78
  · subst h78
    rw [if_pos rfl]
    obtain ⟨⟨x, er⟩, hr⟩ : ∃ r, intV k n s = r := ⟨_, rfl⟩
    rw [hr]
    unfold lnotE
    by_cases he : er = 0
    · subst he
      rw [if_pos rfl]
      by_cases hx : x = 0
      · rw [decide_eq_true hx]
        exact un_78t k n o s HV hs x (Lib.hid hr) (by rw [hx]; rfl) w
      · rw [decide_eq_false hx]
        exact un_78f k n o s HV hs x (Lib.hid hr) (beq_eq_false_iff_ne.2 hx) w
    · rw [if_neg he]
      exact un_78e k n o s HV hs x er (Lib.hid hr) (by rw [bne_iff_ne]; exact he) w
  rw [if_neg h78]
  by_cases h79 : op = 79
  · subst h79
    rw [if_pos rfl]
    by_cases h2 : k = 2
    · subst h2
      rw [if_pos (.inl rfl)]
      exact un_79_2 n o s HV hs w
    by_cases h3 : k = 3
    · subst h3
      rw [if_pos (.inr rfl)]
      exact un_79_3 n o s HV hs w
    rw [if_neg (by omega)]
    exact un_79e k n o s HV hs (by rw [bne_iff_ne]; exact h2) (by rw [bne_iff_ne]; exact h3) w
  rw [if_neg h79]
  by_cases h80 : op = 80
  · subst h80
    rw [if_pos rfl]
    unfold expV
    by_cases h2 : k = 2
    · subst h2
      rw [if_pos rfl]
      obtain ⟨⟨x, er⟩, hr⟩ : ∃ r, parE (parV s) = r := ⟨_, rfl⟩
      rw [hr]
      obtain ⟨a, b, t, c, e2, h⟩ := intE_frm (x, er)
      rw [h]
      exact un_80s n o s HV hs x er a b c e2 t (Lib.hid hr) (Lib.hid h) w
    · rw [if_neg h2]
      obtain ⟨⟨x, er⟩, hr⟩ : ∃ r, intV k n s = r := ⟨_, rfl⟩
      rw [hr]
      obtain ⟨a, b, t, c, e2, h⟩ := intE_frm (x, er)
      rw [h]
      exact un_80n k n o s HV hs (beq_eq_false_iff_ne.2 h2) x er a b c e2 t (Lib.hid hr) (Lib.hid h) w
  rw [if_neg h80]
  by_cases h81 : op = 81
  · subst h81
    rw [if_pos rfl]
    obtain ⟨⟨x, er⟩, hr⟩ : ∃ r, bufV k n s = r := ⟨_, rfl⟩
    rw [hr]
    obtain ⟨a, b, t, c, e2, h⟩ := textE_frm 3 (x, er)
    rw [h]
    exact un_81 k n o s HV hs hn0 x er a b c e2 t (Lib.hid hr) (Lib.hid h) w
  rw [if_neg h81]
  by_cases h82 : op = 82
  · subst h82
    rw [if_pos rfl]
    have H := fun w h => dig_hex_any k n o s w hv hn0 hn1 h
    obtain ⟨a, b, t, c, e2, h⟩ := textE_frm 2 (wrV [48, 120] 16 2 k n s)
    rw [h] at H ⊢
    exact un_82 k n o s HV hs a b c e2 t H w hT
  rw [if_neg h82]
  by_cases h83 : op = 83
  · subst h83
    rw [if_pos rfl]
    have H := fun w h => dig_dec_any k n o s w hv hn0 hn1 h
    obtain ⟨a, b, t, c, e2, h⟩ := textE_frm 2 (wrV [] 10 1 k n s)
    rw [h] at H ⊢
    exact un_83 k n o s HV hs a b c e2 t H w hP
  rw [if_neg h83]
  exact un_else op k n o s HV hs (beq_eq_false_iff_ne.2 h77) (beq_eq_false_iff_ne.2 h78) (beq_eq_false_iff_ne.2 h79) (beq_eq_false_iff_ne.2 h80) (beq_eq_false_iff_ne.2 h81) (beq_eq_false_iff_ne.2 h82) (beq_eq_false_iff_ne.2 h83) w
theorem runary_any (op k n o : Int) (s : List UInt8) (w : World) (hs : s.length ≤ 9223372036854774000) (hn0 : 0 ≤ n) (hn1 : n ≤ 18446744073709551615) :
    Calls Tryd.prog 7 #[.int .i64 op, valV k n s o] w (CvPost w (unV op k n s)) := by
  have HN : Hid (n.toNat < 2 ^ 64) := Lib.hid (by omega)
  cases hv : validV k s
  · rw [show unV op k n s = badV 1 by unfold unV; rw [if_pos hv]]
    exact run_bad op k n o s (Lib.hid hv) hs w
  have HV := Lib.hid hv
  rw [unV_at hv]
  by_cases h77 : op = 77
  · subst h77
    rw [if_pos rfl]
    obtain ⟨⟨x, er⟩, hr⟩ : ∃ r, intV k n s = r := ⟨_, rfl⟩
    rw [hr]
    unfold notE
    by_cases he : er = 0
    · subst he
      rw [if_pos rfl]
      exact run_77 k n o s HV hs x (Lib.hid hr) w
    · rw [if_neg he]
      exact run_77e k n o s HV hs x er (Lib.hid hr) (by rw [bne_iff_ne]; exact he) w
  rw [if_neg h77]
  by_cases h78 : op = 78
  · subst h78
    rw [if_pos rfl]
    obtain ⟨⟨x, er⟩, hr⟩ : ∃ r, intV k n s = r := ⟨_, rfl⟩
    rw [hr]
    unfold lnotE
    by_cases he : er = 0
    · subst he
      rw [if_pos rfl]
      by_cases hx : x = 0
      · rw [decide_eq_true hx]
        exact run_78t k n o s HV hs x (Lib.hid hr) (by rw [hx]; rfl) w
      · rw [decide_eq_false hx]
        exact run_78f k n o s HV hs x (Lib.hid hr) (beq_eq_false_iff_ne.2 hx) w
    · rw [if_neg he]
      exact run_78e k n o s HV hs x er (Lib.hid hr) (by rw [bne_iff_ne]; exact he) w
  rw [if_neg h78]
  by_cases h79 : op = 79
  · subst h79
    rw [if_pos rfl]
    by_cases h2 : k = 2
    · subst h2
      rw [if_pos (.inl rfl)]
      exact run_79_2 n o s HV hs w
    by_cases h3 : k = 3
    · subst h3
      rw [if_pos (.inr rfl)]
      exact run_79_3 n o s HV hs w
    rw [if_neg (by omega)]
    exact run_79e k n o s HV hs (by rw [bne_iff_ne]; exact h2) (by rw [bne_iff_ne]; exact h3) w
  rw [if_neg h79]
  by_cases h80 : op = 80
  · subst h80
    rw [if_pos rfl]
    unfold expV
    by_cases h2 : k = 2
    · subst h2
      rw [if_pos rfl]
      have H := fun w => rexp_str n o s w hs
      obtain ⟨a, b, t, c, e2, h⟩ := intE_frm (parE (parV s))
      rw [h] at H ⊢
      exact run_80 2 n o s HV hs a b c e2 t H w
    · rw [if_neg h2]
      have H := fun w => rexp_num k n o s w hs h2
      obtain ⟨a, b, t, c, e2, h⟩ := intE_frm (intV k n s)
      rw [h] at H ⊢
      exact run_80 k n o s HV hs a b c e2 t H w
  rw [if_neg h80]
  by_cases h81 : op = 81
  · subst h81
    rw [if_pos rfl]
    have H := fun w => rconvert_any k n o 3 s w hs hn0 HN
    rw [show cvV k n s o 3 = textE 3 (bufV k n s) by unfold cvV; rw [if_neg (by rw [hv]; decide), if_neg (by decide), if_neg (by decide), if_pos rfl]] at H
    obtain ⟨a, b, t, c, e2, h⟩ := textE_frm 3 (bufV k n s)
    rw [h] at H ⊢
    exact run_81 k n o s HV hs a b c e2 t H w
  rw [if_neg h81]
  by_cases h82 : op = 82
  · subst h82
    rw [if_pos rfl]
    have H := fun w => written_any [48, 120] 16 2 k n o s w (by decide) (by omega) (by omega) (by omega) hs hv hn0 HN
    obtain ⟨a, b, t, c, e2, h⟩ := textE_frm 2 (wrV [48, 120] 16 2 k n s)
    rw [h] at H ⊢
    exact run_82 k n o s HV hs a b c e2 t H w
  rw [if_neg h82]
  by_cases h83 : op = 83
  · subst h83
    rw [if_pos rfl]
    have H := fun w => written_any [] 10 1 k n o s w (by decide) (by omega) (by omega) (by omega) hs hv hn0 HN
    obtain ⟨a, b, t, c, e2, h⟩ := textE_frm 2 (wrV [] 10 1 k n s)
    rw [h] at H ⊢
    exact run_83 k n o s HV hs a b c e2 t H w
  rw [if_neg h83]
  exact run_else op k n o s HV hs (beq_eq_false_iff_ne.2 h77) (beq_eq_false_iff_ne.2 h78) (beq_eq_false_iff_ne.2 h79) (beq_eq_false_iff_ne.2 h80) (beq_eq_false_iff_ne.2 h81) (beq_eq_false_iff_ne.2 h82) (beq_eq_false_iff_ne.2 h83) w
theorem unary_is (op k n o : Int) (s : List UInt8) (a b c er : Int) (t : List UInt8) (H : Hid (unV op k n s = (valV a b t c, er))) (w : World) (hs : s.length ≤ 9223372036854774000) (hn0 : 0 ≤ n) (hn1 : n ≤ 18446744073709551615) (hT : Tz16 w) (hP : Pow10 w) :
    Calls Tryd.prog 6 #[.int .i64 op, valV k n s o] w fun e w' => e = .returned (.tuple #[valV a b t c, .int .i64 er]) ∧ Below w.heap.size w w' := by
  have := unary_any op k n o s w hs hn0 hn1 hT hP
  rw [H.out] at this
  exact this
theorem runary_is (op k n o : Int) (s : List UInt8) (a b c er : Int) (t : List UInt8) (H : Hid (unV op k n s = (valV a b t c, er))) (w : World) (hs : s.length ≤ 9223372036854774000) (hn0 : 0 ≤ n) (hn1 : n ≤ 18446744073709551615) :
    Calls Tryd.prog 7 #[.int .i64 op, valV k n s o] w fun e w' => e = .returned (.tuple #[valV a b t c, .int .i64 er]) ∧ Below w.heap.size w w' := by
  have := runary_any op k n o s w hs hn0 hn1
  rw [H.out] at this
  exact this
/-- The tables that strconv reads. -/
def TP (w : World) : Prop := Tz16 w ∧ Pow10 w
theorem TP.below {w w' : World} (h : TP w) (hb : Below w.heap.size w w') : TP w' :=
  ⟨(hb.cell (p := ⟨6, 15, none⟩) (World.block_lt_of_cell? w _ h.1)).trans h.1, pow10_below h.2 hb (pow10_lt h.2)⟩
theorem TP.tz {w : World} (h : TP w) : Tz16 w := h.1
theorem TP.pw {w : World} (h : TP w) : Pow10 w := h.2
theorem VBox.bel {w wr : World} {k n : Int} {s : List UInt8} {o : Int} (h : VBox w wr k n s o) : Below w.heap.size w wr := h.2
theorem VBox.alloc {w wr : World} {k n : Int} {s : List UInt8} {o : Int} (h : VBox w wr k n s o) (x : Obj) : VBox w (wr.alloc x) k n s o := h.below ((Below.refl _ _).alloc (Nat.le_refl _) _)
def Fits (n : Int) (s : List UInt8) : Prop := 0 ≤ n ∧ n ≤ 18446744073709551615 ∧ s.length ≤ 140737488355328
set_option maxRecDepth 100000 in
set_option maxHeartbeats 4000000 in
theorem law_unary (op' k1' n1' o1' : Int) (s1' : List UInt8) (w : World) (F1 : Fits n1' s1') (hTP : TP w) :
    Calls Tryd.prog 3 #[.int .i64 op', valV k1' n1' s1' o1'] w fun e w' => e = .returned (.bool true) ∧ Below w.heap.size w w' := by
  have HX0 := Lib.hid (VBox.start w k1' n1' s1' o1')
  have HTP := Lib.hid (fun w' (h : Below w.heap.size w w') => hTP.below h)
  clear hTP
  go_enter Tryd.func3, Tryd.ntmps3
  go_wp2_with fail
  go_loopw [0, 5] (fun p q wr => ∃ (op k1 n1 o1 : Int) (s1 : List UInt8) (j : Nat), j ≤ 3 ∧ p = .int .i64 op ∧ q = .int .i64 j ∧ Fits n1 s1 ∧ Hid (VBox w wr k1 n1 s1 o1)) (fun _ q _ => 3 - (intOf q).toNat)
  case atStart => exact ⟨op', k1', n1', o1', s1', 0, by omega, rfl, rfl, F1, HX0⟩
  case round =>
    clear HX0 F1
    obtain ⟨op, k1, n1, o1, s1, j, hj, rfl, rfl, F1, HX⟩ := hrel
    obtain ⟨f1, f2, f3⟩ := F1
    obtain ⟨a0, a1, a2, a3⟩ := HX.out.cells
    by_cases h3 : j = 3
    · subst h3
      go_wp2_with fail
      ((with_reducible refine (awake_any _).mono ?_))
      rintro e w9 ⟨rfl, hb⟩
      have HB := Lib.hid (bel_then HX.out.2 (Nat.le_refl _) hb)
      clear hb
      go_wp2_with fail
      go_ret
      exact ⟨rfl, HB.out⟩
    obtain ⟨va, vb, vt, vc, er, hr⟩ := un_form op k1 n1 s1
    have HR := Lib.hid hr
    clear hr
    obtain ⟨m, hm⟩ : ∃ m, modV op 8 = m := ⟨_, rfl⟩
    have hm0 : 0 ≤ m := by rw [← hm]; exact modV_nonneg op 8 (by omega)
    have hm1 : m < 8 := by rw [← hm]; exact modV_lt op 8 (by omega)
    have HM := Lib.hid hm
    clear hm
    have hj012 : j = 0 ∨ j = 1 ∨ j = 2 := by omega
    clear h3 hj
    rcases hj012 with rfl | rfl | rfl
    all_goals
      go_wp2_with fail
      ((with_reducible refine (unary_is op k1 n1 o1 s1 va vb vc er vt HR _ (by omega) f1 f2 (HTP.out _ HX.out.bel).tz (HTP.out _ HX.out.bel).pw).mono ?_))
      rintro e w1 ⟨rfl, hb⟩
      have HX1 := Lib.hid (HX.out.below hb)
      clear hb HX a0 a1 a2 a3
      have q0 := fun o => (HX1.out.alloc o).cells.1
      have q1 := fun o => (HX1.out.alloc o).cells.2.1
      have q2 := fun o => (HX1.out.alloc o).cells.2.2.1
      have q3 := fun o => (HX1.out.alloc o).cells.2.2.2
      go_wp2_with fail
      ((with_reducible refine (runary_is op k1 n1 o1 s1 va vb vc er vt HR _ (by omega) f1 f2).mono ?_))
      rintro e w2 ⟨rfl, hb⟩
      have HX2 := Lib.hid ((HX1.out.alloc _).below hb)
      have HZ := Lib.hid (bel_alloc hb).2
      clear hb HX1 q0 q1 q2 q3
      go_upto_region 6 with fail
      have HX3 := Lib.hid (HX2.out.alloc (vObj va vb vt vc))
      have HZ3 := Lib.hid (blk_alloc HZ.out (vObj va vb vt vc))
      have HY3 := Lib.hid (heap_alloc_new w2 (vObj va vb vt vc))
      clear HX2 HZ
      generalize w2.alloc (vObj va vb vt vc) = w3 at *
      obtain ⟨a0, a1, a2, a3⟩ := cells4 HZ3.out
      obtain ⟨b0, b1, b2, b3⟩ := cells4 HY3.out
      go_wp2_with fail
      ((with_reducible refine (mod_is op 8 m HM _ (by omega) (by omega)).mono ?_))
      rintro e w4 ⟨rfl, rfl⟩
      clear a0 a1 a2 a3 b0 b1 b2 b3 HZ3 HY3
    · obtain ⟨a0, a1, a2, a3⟩ := HX3.out.cells
      go_wp2_with fail
      ((with_reducible refine (some_any k1 n1 o1 s1 _ f3 f1 f2).mono ?_))
      rintro e w5 ⟨ka, na, sa, oa, rfl, fa1, fa2, fa3, hb⟩
      have HX5 := Lib.hid (HX3.out.below hb)
      clear hb HX3 a0 a1 a2 a3
      obtain ⟨a0, a1, a2, a3⟩ := HX5.out.cells
      have fr0 := free3 HX5.out.1 0
      have fr1 := free3 HX5.out.1 1
      have fr2 := free3 HX5.out.1 2
      have fr3 := free3 HX5.out.1 3
      go_wp2_with fail
      go_roundw
      case rel => exact ⟨77 + m, ka, na, oa, sa, 1, by omega, rfl, rfl, ⟨fa1, fa2, fa3⟩, Lib.hid ⟨put4 HX5.out.1 _ _ _ _, bel4 HX5.out.2 (Nat.le_refl _) _ _ _ _⟩⟩
      case measure => simp [intOf]
    · go_wp2_with fail
      go_roundw
      case rel => exact ⟨77 + m, k1, n1, o1, s1, 2, by omega, rfl, rfl, ⟨f1, f2, f3⟩, HX3⟩
      case measure => simp [intOf]
    · go_wp2_with fail
      go_roundw
      case rel => exact ⟨77 + m, k1, n1, o1, s1, 3, by omega, rfl, rfl, ⟨f1, f2, f3⟩, HX3⟩
      case measure => simp [intOf]
end Go.Proofs.YteifmjhkedhomaaDoor
