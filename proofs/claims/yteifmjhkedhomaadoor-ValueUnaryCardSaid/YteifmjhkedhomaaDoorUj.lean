/- digitString, whole: the walk. -/
import Derived.Test.YteifmjhkedhomaaDoorUi
namespace Go.Proofs.YteifmjhkedhomaaDoor
open Go.RowKit
set_option linter.unusedVariables false
set_option linter.unusedSimpArgs false
attribute [local go_sem] ByteArray.mk_append_mk bs_get bs_cut bs_end conv1 conv2

theorem hexG_len (c : UInt8) : (hexG c).length ≤ 80 := by
  have := c.toNat_lt
  rw [hexG, digL_two, List.length_append, List.length_append, digC_len _ (by omega), digC_len _ (by omega)]; decide
theorem decG_len (c : UInt8) : (decG c).length ≤ 80 := by
  have := c.toNat_lt
  rw [decG, digL_dec _ (by omega)]
  have := decDigits_len 2 c.toNat (by omega)
  omega
set_option maxRecDepth 100000 in
set_option maxHeartbeats 1000000 in
theorem dig_int_dec (N : Nat) (o : Int) (s : List UInt8) (w : World) (hN : N ≤ 18446744073709551615) (hT : Pow10 w) :
    Calls Tryd.prog 22 #[valV 1 N s o, .func (.func 28) #[] #[], .func (.func 29) #[] #[]] w (CvPost w (valV 2 0 (Lib.decDigits N) 0, 0)) := by
  have HA := Lib.hid (CAt.start w 1 N s o)
  obtain ⟨b0, b1, b2, b3⟩ := HA.out.1.cells
  have HTZ : Hid (∀ w', Below w.heap.size w w' → Pow10 w') := Lib.hid fun w' h => pow10_below hT h (pow10_lt hT)
  have KF := Lib.hid (fun w h => u3_any N w hN h)
  have hul := decDigits_len 19 N (by omega)
  obtain ⟨U, hU⟩ : ∃ U, Lib.decDigits N = U := ⟨_, rfl⟩
  have HUL : Hid (U.length ≤ 255) := Lib.hid (by rw [← hU]; omega)
  rw [hU] at KF ⊢
  clear hU hul hT hN
  go_enter Tryd.func22, Tryd.ntmps22
  go_upto_region 1 with fail
  generalize ((w.alloc (.cells #[.int .i64 1, .int .u64 (N : Int), .string ⟨s.toArray⟩, .int .i64 o] 24)).alloc (.cells #[.int .i64 0, .int .u64 0, .string ⟨#[]⟩, .int .i64 0] 24)) = W at *
  go_wp2_with fail
  ((with_reducible refine (text_b _ _).mono ?_))
  rintro e w2 ⟨b, rfl, hb2, hc2⟩
  have HA2 := Lib.hid (HA.out.below hb2)
  have HC := Lib.hid hc2
  clear HA b0 b1 b2 b3 hb2 hc2
  obtain ⟨b0, b1, b2, b3⟩ := HA2.out.1.cells
  go_wp2_with fail
  ((with_reducible refine (KF.out _ (HTZ.out _ HA2.out.bel)).mono ?_))
  rintro e w3 ⟨rfl, hb⟩
  have HA3 := Lib.hid (HA2.out.below hb)
  have HC3 := Lib.hid (blk_below HC.out hb)
  clear HA2 HC b0 b1 b2 b3 hb
  obtain ⟨b0, b1, b2, b3⟩ := HA3.out.1.cells
  go_wp2_with fail
  ((with_reducible refine (limited_ok U _ HUL.out).mono ?_))
  rintro e w4 ⟨rfl, rfl⟩
  go_wp2_with fail
  ((with_reducible refine (text1_ok 2 _ _ _ (cell1 HC3.out)).mono ?_))
  rintro e w5 ⟨rfl, hb⟩
  have HA4 := Lib.hid (HA3.out.below hb)
  clear HA3 b0 b1 b2 b3 hb
  have hn := HA4.out.2
  obtain ⟨c0, c1, c2, c3⟩ := cells4 hn
  have f0 := free3 hn 0
  have f1 := free3 hn 1
  have f2 := free3 hn 2
  have f3 := free3 hn 3
  clear hn
  go_wp2_with fail
  exact bodyPost_ret (ret_ds _ _ _ _ _ _ _ rfl (put4 HA4.out.2 _ _ _ _)) rfl ⟨rfl, bel4 HA4.out.1.2 (by omega) _ _ _ _⟩
set_option maxHeartbeats 1000000 in
theorem list_decP (s sep : List UInt8) (g : UInt8 → List UInt8) (hF : ∀ (c : UInt8) (w : World), Pow10 w → Calls Tryd.prog 29 #[.int .u8 c.toNat] w fun e w' => e = .returned (.string ⟨(g c).toArray⟩) ∧ Below w.heap.size w w') (hg : ∀ c, (g c).length ≤ 80)
    (w : World) (hs : s.length ≤ 255) (hsep : sep.length ≤ 1) (hT : Pow10 w) :
    Calls Tryd.prog 37 #[.string ⟨s.toArray⟩, .string ⟨sep.toArray⟩, .func (.func 29) #[] #[]] w fun e w' => e = .returned (.tuple #[.string ⟨(limV (joinL g sep s)).1.toArray⟩, .int .i64 (limV (joinL g sep s)).2]) ∧ Below w.heap.size w w' := by
  have HF := Lib.hid hF
  have HGL := Lib.hid hg
  have HTZ : Hid (∀ w', Below w.heap.size w w' → Pow10 w') := Lib.hid fun w' h => pow10_below hT h (pow10_lt hT)
  clear hF hg hT
  have HB0 := Lib.hid (Bld.fresh w)
  go_enter Tryd.func37, Tryd.ntmps37
  go_wp2_with fail
  go_loopw [12] (fun i wr => ∃ (k : Nat) (x : List UInt8), i = .int .i64 k ∧ k ≤ s.length ∧ x.length ≤ 83 * k ∧ Hid (x = joinK g sep s k) ∧ Hid (Bld wr w.heap.size w.heap.size x) ∧ Hid (Below w.heap.size w wr)) (fun i _ => s.length - (intOf i).toNat)
  case atStart => exact ⟨0, [], rfl, Nat.zero_le _, by simp, Lib.hid rfl, HB0, Lib.hid ((Below.refl _ _).alloc (Nat.le_refl _) _)⟩
  case round =>
    obtain ⟨k, x, rfl, hk, hxl, HX, HB, HW⟩ := hrel
    clear HB0
    by_cases hlt : k < s.length
    · have hlt' : (k : Int) < s.length := by omega
      have HJ := Lib.hid (joinK_succ g sep s k hlt)
      have hgl := HGL.out s[k]
      by_cases h0 : 0 < k
      · have h0' : (0 : Int) < k := by omega
        have HJ2 : Hid (joinK g sep s (k + 1) = x ++ sep ++ g s[k]) := Lib.hid (by rw [HJ.out, if_pos h0, ← HX.out, List.append_assoc])
        clear HJ HX
        go_wp2_with fail
        ((with_reducible refine (bld_str _ _ x sep _ HB.out (by omega)).mono ?_))
        rintro e w2 ⟨rfl, hb2, hw2⟩
        have HB2 := Lib.hid hb2
        have HW2 : Hid (Below w.heap.size w w2) := Lib.hid (HW.out.trans hw2)
        clear hb2 hw2
        go_wp2_with fail
        ((with_reducible refine (HF.out s[k] _ (HTZ.out _ HW2.out)).mono ?_))
        rintro e w3 ⟨rfl, hw3⟩
        have HB3 := Lib.hid (HB2.out.below hw3)
        have HW3 : Hid (Below w.heap.size w w3) := Lib.hid (bel_then HW2.out (Nat.le_refl _) hw3)
        clear hw3
        go_wp2_with fail
        ((with_reducible refine (bld_str _ _ (x ++ sep) (g s[k]) _ HB3.out (by rw [List.length_append]; omega)).mono ?_))
        rintro e w4 ⟨rfl, hb4, hw4⟩
        have HB4 := Lib.hid hb4
        have HW4 : Hid (Below w.heap.size w w4) := Lib.hid (HW3.out.trans hw4)
        clear hb4 hw4
        go_wp2_with fail
        go_roundw
        case rel => exact ⟨k + 1, x ++ sep ++ g s[k], by go_num, by omega, by simp only [List.length_append]; omega, Lib.hid HJ2.out.symm, HB4, HW4⟩
        case measure => simp [intOf]; omega
      · have h0' : ¬ (0 : Int) < k := by omega
        have HJ2 : Hid (joinK g sep s (k + 1) = x ++ g s[k]) := Lib.hid (by rw [HJ.out, if_neg h0, ← HX.out, List.nil_append])
        clear HJ HX
        go_wp2_with fail
        ((with_reducible refine (HF.out s[k] _ (HTZ.out _ HW.out)).mono ?_))
        rintro e w3 ⟨rfl, hw3⟩
        have HB3 := Lib.hid (HB.out.below hw3)
        have HW3 : Hid (Below w.heap.size w w3) := Lib.hid (bel_then HW.out (Nat.le_refl _) hw3)
        clear hw3
        go_wp2_with fail
        ((with_reducible refine (bld_str _ _ x (g s[k]) _ HB3.out (by omega)).mono ?_))
        rintro e w4 ⟨rfl, hb4, hw4⟩
        have HB4 := Lib.hid hb4
        have HW4 : Hid (Below w.heap.size w w4) := Lib.hid (HW3.out.trans hw4)
        clear hb4 hw4
        go_wp2_with fail
        go_roundw
        case rel => exact ⟨k + 1, x ++ g s[k], by go_num, by omega, by simp only [List.length_append]; omega, Lib.hid HJ2.out.symm, HB4, HW4⟩
        case measure => simp [intOf]; omega
    · have hlt' : ¬ (k : Int) < s.length := by omega
      obtain rfl : k = s.length := by omega
      go_wp2_with fail
      ((with_reducible refine (bld_string _ _ x _ HB.out).mono ?_))
      rintro e w2 ⟨rfl, hw2⟩
      have HW2 : Hid (Below w.heap.size w w2) := Lib.hid (HW.out.trans hw2)
      clear hw2
      go_wp2_with fail
      ((with_reducible refine (limited_any x _ (by omega)).mono ?_))
      rintro e w3 ⟨rfl, rfl⟩
      go_wp2_with fail
      go_ret2
      exact ⟨by rw [joinL, ← HX.out]; rfl, HW2.out⟩
set_option maxRecDepth 100000 in
set_option maxHeartbeats 1000000 in
theorem dig_buf_hex (n o : Int) (s : List UInt8) (w : World) (hs : s.length ≤ 255) :
    Calls Tryd.prog 22 #[valV 3 n s o, .func (.func 23) #[] #[], .func (.func 26) #[] #[]] w (CvPost w (textE 2 (limV (joinL hexG [44] s)))) := by
  have HA := Lib.hid (CAt.start w 3 n s o)
  obtain ⟨b0, b1, b2, b3⟩ := HA.out.1.cells
  obtain ⟨r, HL⟩ : ∃ r, Hid (limV (joinL hexG [44] s) = r) := ⟨_, Lib.hid rfl⟩
  have HBN := Lib.hid (fun w => list_hex s [44] hexG u2_any hexG_len w hs (by simp))
  rw [HL.out] at HBN ⊢
  have HRC : Hid ((∃ y, r = (y, 0)) ∨ r = ([], 11)) := Lib.hid (by rw [← HL.out]; exact lim_case _)
  clear HL
  rcases HRC.out with ⟨y, rfl⟩ | rfl
  · clear HRC
    go_enter Tryd.func22, Tryd.ntmps22
    go_upto_region 1 with fail
    generalize ((w.alloc (.cells #[.int .i64 3, .int .u64 n, .string ⟨s.toArray⟩, .int .i64 o] 24)).alloc (.cells #[.int .i64 0, .int .u64 0, .string ⟨#[]⟩, .int .i64 0] 24)) = W at *
    go_wp2_with fail
    ((with_reducible refine (text_b _ _).mono ?_))
    rintro e w2 ⟨b, rfl, hb2, hc2⟩
    have HA2 := Lib.hid (HA.out.below hb2)
    have HC := Lib.hid hc2
    clear HA b0 b1 b2 b3 hb2 hc2
    obtain ⟨b0, b1, b2, b3⟩ := HA2.out.1.cells
    go_wp2_with fail
    ((with_reducible refine (HBN.out _).mono ?_))
    rintro e w3 ⟨rfl, hb⟩
    have HA3 := Lib.hid (HA2.out.below hb)
    have HC3 := Lib.hid (blk_below HC.out hb)
    clear HA2 HC b0 b1 b2 b3 hb
    obtain ⟨b0, b1, b2, b3⟩ := HA3.out.1.cells
    go_wp2_with fail
    ((with_reducible refine (text1_ok 2 _ _ _ (cell1 HC3.out)).mono ?_))
    rintro e w5 ⟨rfl, hb⟩
    have HA4 := Lib.hid (HA3.out.below hb)
    clear HA3 b0 b1 b2 b3 hb
    have hn := HA4.out.2
    obtain ⟨c0, c1, c2, c3⟩ := cells4 hn
    have f0 := free3 hn 0
    have f1 := free3 hn 1
    have f2 := free3 hn 2
    have f3 := free3 hn 3
    clear hn
    go_wp2_with fail
    exact bodyPost_ret (ret_ds _ _ _ _ _ _ _ rfl (put4 HA4.out.2 _ _ _ _)) rfl ⟨rfl, bel4 HA4.out.1.2 (by omega) _ _ _ _⟩
  · clear HRC
    go_enter Tryd.func22, Tryd.ntmps22
    go_upto_region 1 with fail
    generalize ((w.alloc (.cells #[.int .i64 3, .int .u64 n, .string ⟨s.toArray⟩, .int .i64 o] 24)).alloc (.cells #[.int .i64 0, .int .u64 0, .string ⟨#[]⟩, .int .i64 0] 24)) = W at *
    go_wp2_with fail
    ((with_reducible refine (text_b _ _).mono ?_))
    rintro e w2 ⟨b, rfl, hb2, hc2⟩
    have HA2 := Lib.hid (HA.out.below hb2)
    have HC := Lib.hid hc2
    clear HA b0 b1 b2 b3 hb2 hc2
    obtain ⟨b0, b1, b2, b3⟩ := HA2.out.1.cells
    go_wp2_with fail
    ((with_reducible refine (HBN.out _).mono ?_))
    rintro e w3 ⟨rfl, hb⟩
    have HA3 := Lib.hid (HA2.out.below hb)
    have HC3 := Lib.hid (blk_below HC.out hb)
    clear HA2 HC b0 b1 b2 b3 hb
    obtain ⟨b0, b1, b2, b3⟩ := HA3.out.1.cells
    go_wp2_with fail
    ((with_reducible refine (text1_err 11 _ _ _ (by decide)).mono ?_))
    rintro e w5 ⟨rfl, hb⟩
    have HA4 := Lib.hid (HA3.out.below hb)
    clear HA3 b0 b1 b2 b3 hb
    have hn := HA4.out.2
    obtain ⟨c0, c1, c2, c3⟩ := cells4 hn
    have f0 := free3 hn 0
    have f1 := free3 hn 1
    have f2 := free3 hn 2
    have f3 := free3 hn 3
    clear hn
    go_wp2_with fail
    exact bodyPost_ret (ret_ds _ _ _ _ _ _ _ rfl (put4 HA4.out.2 _ _ _ _)) rfl ⟨rfl, bel4 HA4.out.1.2 (by omega) _ _ _ _⟩
set_option maxRecDepth 100000 in
set_option maxHeartbeats 1000000 in
theorem dig_buf_dec (n o : Int) (s : List UInt8) (w : World) (hs : s.length ≤ 255) (hT : Pow10 w) :
    Calls Tryd.prog 22 #[valV 3 n s o, .func (.func 28) #[] #[], .func (.func 29) #[] #[]] w (CvPost w (textE 2 (limV (joinL decG [44] s)))) := by
  have HA := Lib.hid (CAt.start w 3 n s o)
  obtain ⟨b0, b1, b2, b3⟩ := HA.out.1.cells
  obtain ⟨r, HL⟩ : ∃ r, Hid (limV (joinL decG [44] s) = r) := ⟨_, Lib.hid rfl⟩
  have HTZ : Hid (∀ w', Below w.heap.size w w' → Pow10 w') := Lib.hid fun w' h => pow10_below hT h (pow10_lt hT)
  have HBN := Lib.hid (fun w h => list_decP s [44] decG u4_any decG_len w hs (by simp) h)
  clear hT
  rw [HL.out] at HBN ⊢
  have HRC : Hid ((∃ y, r = (y, 0)) ∨ r = ([], 11)) := Lib.hid (by rw [← HL.out]; exact lim_case _)
  clear HL
  rcases HRC.out with ⟨y, rfl⟩ | rfl
  · clear HRC
    go_enter Tryd.func22, Tryd.ntmps22
    go_upto_region 1 with fail
    generalize ((w.alloc (.cells #[.int .i64 3, .int .u64 n, .string ⟨s.toArray⟩, .int .i64 o] 24)).alloc (.cells #[.int .i64 0, .int .u64 0, .string ⟨#[]⟩, .int .i64 0] 24)) = W at *
    go_wp2_with fail
    ((with_reducible refine (text_b _ _).mono ?_))
    rintro e w2 ⟨b, rfl, hb2, hc2⟩
    have HA2 := Lib.hid (HA.out.below hb2)
    have HC := Lib.hid hc2
    clear HA b0 b1 b2 b3 hb2 hc2
    obtain ⟨b0, b1, b2, b3⟩ := HA2.out.1.cells
    go_wp2_with fail
    ((with_reducible refine (HBN.out _ (HTZ.out _ HA2.out.bel)).mono ?_))
    rintro e w3 ⟨rfl, hb⟩
    have HA3 := Lib.hid (HA2.out.below hb)
    have HC3 := Lib.hid (blk_below HC.out hb)
    clear HA2 HC b0 b1 b2 b3 hb
    obtain ⟨b0, b1, b2, b3⟩ := HA3.out.1.cells
    go_wp2_with fail
    ((with_reducible refine (text1_ok 2 _ _ _ (cell1 HC3.out)).mono ?_))
    rintro e w5 ⟨rfl, hb⟩
    have HA4 := Lib.hid (HA3.out.below hb)
    clear HA3 b0 b1 b2 b3 hb
    have hn := HA4.out.2
    obtain ⟨c0, c1, c2, c3⟩ := cells4 hn
    have f0 := free3 hn 0
    have f1 := free3 hn 1
    have f2 := free3 hn 2
    have f3 := free3 hn 3
    clear hn
    go_wp2_with fail
    exact bodyPost_ret (ret_ds _ _ _ _ _ _ _ rfl (put4 HA4.out.2 _ _ _ _)) rfl ⟨rfl, bel4 HA4.out.1.2 (by omega) _ _ _ _⟩
  · clear HRC
    go_enter Tryd.func22, Tryd.ntmps22
    go_upto_region 1 with fail
    generalize ((w.alloc (.cells #[.int .i64 3, .int .u64 n, .string ⟨s.toArray⟩, .int .i64 o] 24)).alloc (.cells #[.int .i64 0, .int .u64 0, .string ⟨#[]⟩, .int .i64 0] 24)) = W at *
    go_wp2_with fail
    ((with_reducible refine (text_b _ _).mono ?_))
    rintro e w2 ⟨b, rfl, hb2, hc2⟩
    have HA2 := Lib.hid (HA.out.below hb2)
    have HC := Lib.hid hc2
    clear HA b0 b1 b2 b3 hb2 hc2
    obtain ⟨b0, b1, b2, b3⟩ := HA2.out.1.cells
    go_wp2_with fail
    ((with_reducible refine (HBN.out _ (HTZ.out _ HA2.out.bel)).mono ?_))
    rintro e w3 ⟨rfl, hb⟩
    have HA3 := Lib.hid (HA2.out.below hb)
    have HC3 := Lib.hid (blk_below HC.out hb)
    clear HA2 HC b0 b1 b2 b3 hb
    obtain ⟨b0, b1, b2, b3⟩ := HA3.out.1.cells
    go_wp2_with fail
    ((with_reducible refine (text1_err 11 _ _ _ (by decide)).mono ?_))
    rintro e w5 ⟨rfl, hb⟩
    have HA4 := Lib.hid (HA3.out.below hb)
    clear HA3 b0 b1 b2 b3 hb
    have hn := HA4.out.2
    obtain ⟨c0, c1, c2, c3⟩ := cells4 hn
    have f0 := free3 hn 0
    have f1 := free3 hn 1
    have f2 := free3 hn 2
    have f3 := free3 hn 3
    clear hn
    go_wp2_with fail
    exact bodyPost_ret (ret_ds _ _ _ _ _ _ _ rfl (put4 HA4.out.2 _ _ _ _)) rfl ⟨rfl, bel4 HA4.out.1.2 (by omega) _ _ _ _⟩
theorem dig_hex_any (k n o : Int) (s : List UInt8) (w : World) (hv : validV k s = true) (hn : 0 ≤ n) (hn2 : n ≤ 18446744073709551615) (hT : Tz16 w) :
    Calls Tryd.prog 22 #[valV k n s o, .func (.func 23) #[] #[], .func (.func 26) #[] #[]] w (CvPost w (textE 2 (wrV [48, 120] 16 2 k n s))) := by
  have hsv : k = 2 ∨ k = 3 → s.length ≤ 255 := fun h => by
    unfold validV at hv
    rw [decide_eq_true_eq] at hv
    rcases h with rfl | rfl <;> omega
  by_cases h1 : k = 1
  · subst h1
    obtain ⟨N, rfl⟩ : ∃ N : Nat, n = N := ⟨n.toNat, by omega⟩
    have e : textE 2 (wrV [48, 120] 16 2 1 (N : Int) s) = (valV 2 0 ([48, 120] ++ hexU N) 0, 0) := by
      have := hexU_len (v := N) (by omega)
      unfold wrV
      rw [if_pos rfl, Int.toNat_natCast, digL_hexU N (by omega), limV, if_pos (by rw [List.length_append]; simp; omega)]
      rfl
    rw [e]
    exact dig_int_hex N o s w (by omega) hT
  · by_cases h3 : k = 3
    · subst h3
      have e : wrV [48, 120] 16 2 3 n s = limV (joinL hexG [44] s) := by unfold wrV; rw [if_neg (by decide), if_pos rfl]; rfl
      rw [e]
      exact dig_buf_hex n o s w (hsv (.inr rfl))
    · by_cases h2 : k = 2
      · subst h2
        have e : textE 2 (wrV [48, 120] 16 2 2 n s) = (valV 2 0 s 0, 0) := by unfold wrV; rw [if_neg (by decide), if_neg (by decide), if_pos rfl, limV, if_pos (hsv (.inl rfl))]; rfl
        rw [e]
        exact dig_text _ _ n o s w
      · have e : textE 2 (wrV [48, 120] 16 2 k n s) = badV 10 := by unfold wrV; rw [if_neg h1, if_neg h3, if_neg h2]; rfl
        rw [e]
        exact dig_other _ _ k n o s w h1 h2 h3
theorem dig_dec_any (k n o : Int) (s : List UInt8) (w : World) (hv : validV k s = true) (hn : 0 ≤ n) (hn2 : n ≤ 18446744073709551615) (hT : Pow10 w) :
    Calls Tryd.prog 22 #[valV k n s o, .func (.func 28) #[] #[], .func (.func 29) #[] #[]] w (CvPost w (textE 2 (wrV [] 10 1 k n s))) := by
  have hsv : k = 2 ∨ k = 3 → s.length ≤ 255 := fun h => by
    unfold validV at hv
    rw [decide_eq_true_eq] at hv
    rcases h with rfl | rfl <;> omega
  by_cases h1 : k = 1
  · subst h1
    obtain ⟨N, rfl⟩ : ∃ N : Nat, n = N := ⟨n.toNat, by omega⟩
    have e : textE 2 (wrV [] 10 1 1 (N : Int) s) = (valV 2 0 (Lib.decDigits N) 0, 0) := by
      have := decDigits_len 19 N (by omega)
      unfold wrV
      rw [if_pos rfl, Int.toNat_natCast, List.nil_append, digL_dec N (by omega), limV, if_pos (by omega)]
      rfl
    rw [e]
    exact dig_int_dec N o s w (by omega) hT
  · by_cases h3 : k = 3
    · subst h3
      have e : wrV [] 10 1 3 n s = limV (joinL decG [44] s) := by unfold wrV; rw [if_neg (by decide), if_pos rfl]; rfl
      rw [e]
      exact dig_buf_dec n o s w (hsv (.inr rfl)) hT
    · by_cases h2 : k = 2
      · subst h2
        have e : textE 2 (wrV [] 10 1 2 n s) = (valV 2 0 s 0, 0) := by unfold wrV; rw [if_neg (by decide), if_neg (by decide), if_pos rfl, limV, if_pos (hsv (.inl rfl))]; rfl
        rw [e]
        exact dig_text _ _ n o s w
      · have e : textE 2 (wrV [] 10 1 k n s) = badV 10 := by unfold wrV; rw [if_neg h1, if_neg h3, if_neg h2]; rfl
        rw [e]
        exact dig_other _ _ k n o s w h1 h2 h3
end Go.Proofs.YteifmjhkedhomaaDoor