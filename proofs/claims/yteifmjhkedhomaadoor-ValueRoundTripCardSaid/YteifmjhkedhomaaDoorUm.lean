/- ValueRoundTrip: the plain laws and the walk. -/
import Derived.Test.YteifmjhkedhomaaDoorUl
import Derived.Test.YteifmjhkedhomaaDoorWb
namespace Go.Proofs.YteifmjhkedhomaaDoor
open Go.RowKit
set_option linter.unusedVariables false
set_option linter.unusedSimpArgs false
attribute [local go_sem] ByteArray.mk_append_mk bs_get bs_cut bs_end conv1 conv2

theorem hexK_at (n : Nat) : ∀ (k j : Nat), j < k → (hexK n k)[j]? = some (hexC (n / 2 ^ (60 - 4 * j) % 16))
  | 0, j, h => by omega
  | k + 1, j, h => by
    rw [hexK, digC_hex _ (Nat.mod_lt _ (by decide))]
    by_cases e : j = k
    · subst e
      rw [List.getElem?_append_right (by rw [hexK_len]; exact Nat.le_refl _), hexK_len, Nat.sub_self]; rfl
    · rw [List.getElem?_append_left (by rw [hexK_len]; omega)]
      exact hexK_at n k j (by omega)
theorem hexGo_back (n : Nat) (S : List UInt8) (hl : S.length = 16) (hat : ∀ j, j < 16 → S[j]? = some (hexC (n / 2 ^ (60 - 4 * j) % 16))) (f : Nat) : ∀ j, f + j = 16 → hexGo S f j (n / 16 ^ f) = n := by
  induction f with
  | zero => intro j h; rw [Nat.pow_zero, Nat.div_one]; exact hexGo_stop _ _ _ _ (by omega)
  | succ f ih =>
    intro j h
    have hj : j < S.length := by omega
    have ha := hat j (by omega)
    rw [List.getElem?_eq_getElem hj] at ha
    injection ha with ha
    rw [hexGo_some _ f j _ (n / 2 ^ (60 - 4 * j) % 16) hj (by rw [ha]; exact hexC_v _ (Nat.mod_lt _ (by decide)))]
    have e1 : (2 : Nat) ^ (60 - 4 * j) = 16 ^ f := by
      rw [show (16 : Nat) = 2 ^ 4 by decide, ← Nat.pow_mul, show 60 - 4 * j = 4 * f by omega]
    have e2 : n / 16 ^ (f + 1) * 16 + n / 16 ^ f % 16 = n / 16 ^ f := by
      rw [Nat.pow_succ, ← Nat.div_div_eq_div_mul]; omega
    rw [e1, e2]
    exact ih (j + 1) (by omega)
theorem hexN_back (n : Nat) (h : n ≤ 18446744073709551615) : hexN (hexK n 16) = n := by
  have := hexGo_back n (hexK n 16) (hexK_len n 16) (fun j hj => hexK_at n 16 j hj) 16 0 rfl
  rw [show n / 16 ^ 16 = 0 by rw [Nat.div_eq_of_lt]; omega] at this
  exact this
theorem rt_str (n : Nat) (h : n ≤ 18446744073709551615) : intV 2 0 (hexK n 16) = ((n : Int), 0) := by
  rw [intV_str (by rw [hexK_len]; decide), hexN_back n h]
theorem rt_buf (n : Nat) (h : n ≤ 18446744073709551615) : intV 3 0 (little n 8) = ((n : Int), 0) := by
  rw [intV_buf (by rw [little_length]; decide), List.take_of_length_le (by rw [little_length]; exact Nat.le_refl _), num_little, Nat.mod_eq_of_lt (by omega)]
theorem valid_1 (n : Int) (s : List UInt8) : validV 1 s = true := by simp [validV]
theorem rt_hex (n : Nat) (h : n ≤ 18446744073709551615) : unV 82 1 n [] = (valV 2 0 ([48, 120] ++ hexU n) 0, 0) := by
  have hl := hexU_len h
  have e : wrV [48, 120] 16 2 1 n [] = ([48, 120] ++ hexU n, 0) := by
    unfold wrV
    rw [if_pos rfl, Int.toNat_natCast, digL_hexU n (by omega), limV, if_pos (by rw [List.length_append]; simp; omega)]
  rw [unV_at (valid_1 n []), if_neg (by decide), if_neg (by decide), if_neg (by decide), if_neg (by decide), if_neg (by decide), if_pos rfl, e]
  rfl
theorem rt_dec (n : Nat) (h : n ≤ 18446744073709551615) : unV 83 1 n [] = (valV 2 0 (Lib.decDigits n) 0, 0) := by
  have hl := decDigits_len 19 n (by omega)
  have e : wrV [] 10 1 1 n [] = (Lib.decDigits n, 0) := by
    unfold wrV
    rw [if_pos rfl, Int.toNat_natCast, List.nil_append, digL_dec n (by omega), limV, if_pos (by omega)]
  rw [unV_at (valid_1 n []), if_neg (by decide), if_neg (by decide), if_neg (by decide), if_neg (by decide), if_neg (by decide), if_neg (by decide), if_pos rfl, e]
  rfl
theorem un80_of {s : List UInt8} {n : Nat} (hs : s.length ≤ 255) (h : parV s = some n) : unV 80 2 0 s = (valV 1 n [] 0, 0) := by
  rw [unV_at (by simp [validV, hs]), if_neg (by decide), if_neg (by decide), if_neg (by decide), if_pos rfl]
  unfold expV
  rw [if_pos rfl, h]
  rfl
theorem rt_hex2 (n : Nat) (h : n ≤ 18446744073709551615) : unV 80 2 0 ([48, 120] ++ hexU n) = (valV 1 n [] 0, 0) := by
  have hl := hexU_len h
  refine un80_of (by rw [List.length_append]; simp; omega) ?_
  unfold parV
  rw [if_pos (by simp [pre0x])]
  exact hexU_back n h
theorem rt_dec2 (n : Nat) (h : n ≤ 18446744073709551615) : unV 80 2 0 (Lib.decDigits n) = (valV 1 n [] 0, 0) := by
  have hl := decDigits_len 19 n (by omega)
  obtain ⟨h1, h2⟩ := dec_back n n (Nat.le_refl _) h
  refine un80_of (by omega) ?_
  have hp : pre0x (Lib.decDigits n) = false := by
    unfold pre0x
    rw [decide_eq_false_iff_not]
    intro hc
    have hd : ∀ c ∈ (Lib.decDigits n).take 2, ∃ d, hexV c.toNat = some d ∧ d < 10 := fun c hc => h1 c (List.mem_of_mem_take hc)
    rcases hc with hc | hc <;> rw [hc] at hd
    · obtain ⟨d, e, _⟩ := hd 120 (by simp)
      rw [show hexV (UInt8.toNat 120) = none by decide] at e; cases e
    · obtain ⟨d, e, _⟩ := hd 88 (by simp)
      rw [show hexV (UInt8.toNat 88) = none by decide] at e; cases e
  unfold parV
  rw [if_neg (by rw [hp]; decide)]
  exact h2
theorem string_is (k n o : Int) (s : List UInt8) (x : List UInt8) (er : Int) (H : Hid (strOfV k n s = (x, er))) (w : World) (hs : s.length ≤ 9223372036854775000) (hn0 : 0 ≤ n) : Calls Tryd.prog 12 #[valV k n s o] w fun e w' => e = .returned (.tuple #[.string ⟨x.toArray⟩, .int .i64 er]) ∧ Below w.heap.size w w' := by
  have := string_any k n o s w hs hn0
  rw [H.out] at this
  exact this
theorem Bls.bel {w w2 : World} {l : List (Nat × Obj)} (h : Bls w l) (hb : Below w.heap.size w w2) : Bls w2 l := h.below hb
set_option maxRecDepth 100000 in
set_option maxHeartbeats 4000000 in
theorem law_round (n : Nat) (w : World) (hn : n ≤ 18446744073709551615) (hTP : TP w) :
    Calls Tryd.prog 4 #[.int .u64 n] w fun e w' => e = .returned (.bool true) ∧ Below w.heap.size w w' := by
  have HTP := Lib.hid (fun w' (h : Below w.heap.size w w') => hTP.below h)
  have hhl := hexU_len hn
  have hdl := decDigits_len 19 n (by omega)
  obtain ⟨S, hS⟩ : ∃ S, hexK n 16 = S := ⟨_, rfl⟩
  obtain ⟨B, hB⟩ : ∃ S, little n 8 = S := ⟨_, rfl⟩
  obtain ⟨X, hX⟩ : ∃ S, [48, 120] ++ hexU n = S := ⟨_, rfl⟩
  obtain ⟨D, hD⟩ : ∃ S, Lib.decDigits n = S := ⟨_, rfl⟩
  have hSl : S.length ≤ 255 := by rw [← hS, hexK_len]; decide
  have hBl : B.length ≤ 255 := by rw [← hB, little_length]; decide
  have hXl : X.length ≤ 255 := by rw [← hX, List.length_append]; simp; omega
  have hDl : D.length ≤ 255 := by rw [← hD]; omega
  have H1 : Hid (strOfV 1 n [] = (S, 0)) := Lib.hid (by unfold strOfV; rw [if_neg (by rw [valid_1 n]; decide), if_neg (by decide), if_pos rfl, Int.toNat_natCast, hS])
  have H2 : Hid (bufV 1 n [] = (B, 0)) := Lib.hid (by unfold bufV; rw [if_neg (by rw [valid_1 n]; decide), if_neg (by decide), if_pos rfl, Int.toNat_natCast, hB])
  have H3 : Hid (intV 2 0 S = ((n : Int), 0)) := Lib.hid (by rw [← hS]; exact rt_str n hn)
  have H4 : Hid (intV 3 0 B = ((n : Int), 0)) := Lib.hid (by rw [← hB]; exact rt_buf n hn)
  have H5 : Hid (unV 82 1 n [] = (valV 2 0 X 0, 0)) := Lib.hid (by rw [← hX]; exact rt_hex n hn)
  have H6 : Hid (unV 83 1 n [] = (valV 2 0 D 0, 0)) := Lib.hid (by rw [← hD]; exact rt_dec n hn)
  have H7 : Hid (unV 80 2 0 X = (valV 1 n [] 0, 0)) := Lib.hid (by rw [← hX]; exact rt_hex2 n hn)
  have H8 : Hid (unV 80 2 0 D = (valV 1 n [] 0, 0)) := Lib.hid (by rw [← hD]; exact rt_dec2 n hn)
  have hN0 : (0 : Int) ≤ (n : Int) := by omega
  have hN1 : (n : Int) ≤ 18446744073709551615 := by omega
  obtain ⟨N, hN⟩ : ∃ N : Int, (n : Int) = N := ⟨_, rfl⟩
  rw [hN] at H1 H2 H3 H4 H5 H6 H7 H8 hN0 hN1 ⊢
  clear hTP hhl hdl hS hB hX hD hn hN
  go_enter Tryd.func4, Tryd.ntmps4
  go_wp2_with fail
  ((with_reducible refine (number_any N _).mono ?_))
  rintro e w1 ⟨rfl, hb1⟩
  have HB := Lib.hid hb1
  clear hb1
  go_upto_region 2 with fail
  have HL := Lib.hid ((Bls.nil w1).new (vObj 1 N [] 0))
  have HB2 := Lib.hid (HB.out.alloc HB.out.size (vObj 1 N [] 0))
  have hsz := HB.out.size
  obtain ⟨p, hp⟩ : ∃ p, w1.heap.size = p := ⟨_, rfl⟩
  rw [hp] at HL hsz ⊢
  generalize w1.alloc (vObj 1 N [] 0) = w2 at *
  clear HB hp
  obtain ⟨a0, a1, a2, a3⟩ := cells4 (HL.out.has (b := p) (o := vObj 1 N [] 0) (by simp))
  go_wp2_with fail
  ((with_reducible refine (string_is 1 N 0 [] S 0 H1 _ (by simp) hN0).mono ?_))
  rintro e wx ⟨rfl, hb⟩
  have HL2 := Lib.hid (HL.out.bel hb)
  have HB3 := Lib.hid (bel_then HB2.out (Nat.le_refl _) hb)
  clear hb HL HB2
  have HL := HL2
  have HB2 := HB3
  clear HL2 HB3
  clear a0 a1 a2 a3
  obtain ⟨a0, a1, a2, a3⟩ := cells4 (HL.out.has (b := p) (o := vObj 1 N [] 0) (by simp))
  go_wp2_with fail
  ((with_reducible refine (buffer_is 1 N [] 0 B 0 H2 _ (by simp) hN0).mono ?_))
  rintro e wx ⟨rfl, hb⟩
  have HL2 := Lib.hid (HL.out.bel hb)
  have HB3 := Lib.hid (bel_then HB2.out (Nat.le_refl _) hb)
  clear hb HL HB2
  have HL := HL2
  have HB2 := HB3
  clear HL2 HB3
  clear a0 a1 a2 a3
  go_wp2_with fail
  ((with_reducible refine (integer_is 2 0 0 S N 0 H3 _ (by omega)).mono ?_))
  rintro e wx ⟨rfl, hb⟩
  have HL2 := Lib.hid (HL.out.bel hb)
  have HB3 := Lib.hid (bel_then HB2.out (Nat.le_refl _) hb)
  clear hb HL HB2
  have HL := HL2
  have HB2 := HB3
  clear HL2 HB3
  go_wp2_with fail
  ((with_reducible refine (integer_is 3 0 0 B N 0 H4 _ (by omega)).mono ?_))
  rintro e wx ⟨rfl, hb⟩
  have HL2 := Lib.hid (HL.out.bel hb)
  have HB3 := Lib.hid (bel_then HB2.out (Nat.le_refl _) hb)
  clear hb HL HB2
  have HL := HL2
  have HB2 := HB3
  clear HL2 HB3
  obtain ⟨a0, a1, a2, a3⟩ := cells4 (HL.out.has (b := p) (o := vObj 1 N [] 0) (by simp))
  go_wp2_with fail
  ((with_reducible refine (unary_is 82 1 N 0 [] 2 0 0 0 X H5 _ (by first | omega | simp) (by omega) (by omega) (HTP.out _ HB2.out).tz (HTP.out _ HB2.out).pw).mono ?_))
  rintro e wx ⟨rfl, hb⟩
  have HL2 := Lib.hid (HL.out.bel hb)
  have HB3 := Lib.hid (bel_then HB2.out (Nat.le_refl _) hb)
  clear hb HL HB2
  have HL := HL2
  have HB2 := HB3
  clear HL2 HB3
  clear a0 a1 a2 a3
  go_upto_region 7 with fail
  have HL2 := Lib.hid (HL.out.new (vObj 2 0 X 0))
  have HB3 := Lib.hid (HB2.out.alloc HB2.out.size (vObj 2 0 X 0))
  obtain ⟨q1, hp⟩ : ∃ p, wx.heap.size = p := ⟨_, rfl⟩
  rw [hp] at HL2 ⊢
  generalize wx.alloc (vObj 2 0 X 0) = wy at *
  clear HL HB2 hp wx
  have HL := HL2
  have HB2 := HB3
  clear HL2 HB3
  obtain ⟨a0, a1, a2, a3⟩ := cells4 (HL.out.has (b := p) (o := vObj 1 N [] 0) (by simp))
  go_wp2_with fail
  ((with_reducible refine (unary_is 83 1 N 0 [] 2 0 0 0 D H6 _ (by first | omega | simp) (by omega) (by omega) (HTP.out _ HB2.out).tz (HTP.out _ HB2.out).pw).mono ?_))
  rintro e wx ⟨rfl, hb⟩
  have HL2 := Lib.hid (HL.out.bel hb)
  have HB3 := Lib.hid (bel_then HB2.out (Nat.le_refl _) hb)
  clear hb HL HB2
  have HL := HL2
  have HB2 := HB3
  clear HL2 HB3
  clear a0 a1 a2 a3
  go_upto_region 8 with fail
  have HL2 := Lib.hid (HL.out.new (vObj 2 0 D 0))
  have HB3 := Lib.hid (HB2.out.alloc HB2.out.size (vObj 2 0 D 0))
  obtain ⟨q2, hp⟩ : ∃ p, wx.heap.size = p := ⟨_, rfl⟩
  rw [hp] at HL2 ⊢
  generalize wx.alloc (vObj 2 0 D 0) = wy at *
  clear HL HB2 hp wx
  have HL := HL2
  have HB2 := HB3
  clear HL2 HB3
  obtain ⟨a0, a1, a2, a3⟩ := cells4 (HL.out.has (b := q1) (o := vObj 2 0 X 0) (by simp))
  go_wp2_with fail
  ((with_reducible refine (unary_is 80 2 0 0 X 1 N 0 0 [] H7 _ (by first | omega | simp) (by omega) (by omega) (HTP.out _ HB2.out).tz (HTP.out _ HB2.out).pw).mono ?_))
  rintro e wx ⟨rfl, hb⟩
  have HL2 := Lib.hid (HL.out.bel hb)
  have HB3 := Lib.hid (bel_then HB2.out (Nat.le_refl _) hb)
  clear hb HL HB2
  have HL := HL2
  have HB2 := HB3
  clear HL2 HB3
  clear a0 a1 a2 a3
  go_upto_region 9 with fail
  have HL2 := Lib.hid (HL.out.new (vObj 1 N [] 0))
  have HB3 := Lib.hid (HB2.out.alloc HB2.out.size (vObj 1 N [] 0))
  obtain ⟨q3, hp⟩ : ∃ p, wx.heap.size = p := ⟨_, rfl⟩
  rw [hp] at HL2 ⊢
  generalize wx.alloc (vObj 1 N [] 0) = wy at *
  clear HL HB2 hp wx
  have HL := HL2
  have HB2 := HB3
  clear HL2 HB3
  obtain ⟨a0, a1, a2, a3⟩ := cells4 (HL.out.has (b := q2) (o := vObj 2 0 D 0) (by simp))
  go_wp2_with fail
  ((with_reducible refine (unary_is 80 2 0 0 D 1 N 0 0 [] H8 _ (by first | omega | simp) (by omega) (by omega) (HTP.out _ HB2.out).tz (HTP.out _ HB2.out).pw).mono ?_))
  rintro e wx ⟨rfl, hb⟩
  have HL2 := Lib.hid (HL.out.bel hb)
  have HB3 := Lib.hid (bel_then HB2.out (Nat.le_refl _) hb)
  clear hb HL HB2
  have HL := HL2
  have HB2 := HB3
  clear HL2 HB3
  clear a0 a1 a2 a3
  go_upto_region 10 with fail
  have HL2 := Lib.hid (HL.out.new (vObj 1 N [] 0))
  have HB3 := Lib.hid (HB2.out.alloc HB2.out.size (vObj 1 N [] 0))
  obtain ⟨q4, hp⟩ : ∃ p, wx.heap.size = p := ⟨_, rfl⟩
  rw [hp] at HL2 ⊢
  generalize wx.alloc (vObj 1 N [] 0) = wy at *
  clear HL HB2 hp wx
  have HL := HL2
  have HB2 := HB3
  clear HL2 HB3
  go_wp2_with fail
  ((with_reducible refine (awake_any _).mono ?_))
  rintro e wx ⟨rfl, hb⟩
  have HL2 := Lib.hid (HL.out.bel hb)
  have HB3 := Lib.hid (bel_then HB2.out (Nat.le_refl _) hb)
  clear hb HL HB2
  have HL := HL2
  have HB2 := HB3
  clear HL2 HB3
  obtain ⟨a0, a1, a2, a3⟩ := cells4 (HL.out.has (b := p) (o := vObj 1 N [] 0) (by simp))
  obtain ⟨b0, b1, b2, b3⟩ := cells4 (HL.out.has (b := q3) (o := vObj 1 N [] 0) (by simp))
  obtain ⟨c0, c1, c2, c3⟩ := cells4 (HL.out.has (b := q4) (o := vObj 1 N [] 0) (by simp))
  go_wp2_with fail
  go_ret
  exact ⟨rfl, HB2.out⟩
end Go.Proofs.YteifmjhkedhomaaDoor
