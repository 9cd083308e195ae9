/- number, Unary at OpNot: the walks. -/
import Derived.Test.YteifmjhkedhomaaDoorVr
import Derived.Laws.Bits64b
import Derived.Laws.Closers25b
namespace Go.Proofs.YteifmjhkedhomaaDoor
open Go.RowKit
set_option linter.unusedVariables false
attribute [local go_sem] ByteArray.mk_append_mk bs_get bs_cut bs_end conv1 conv2

theorem bin_num (op x y : Int) (ho : 60 ≤ op) (ho2 : op ≤ 71) : binV op 1 x [] 1 y [] = (valE (arV op x y), (arV op x y).2) := by
  unfold binV
  rw [if_neg (by decide), if_neg (by decide), if_neg (by omega), if_pos ho2, intV_int, intV_int, if_neg (by simp), if_neg (by simp)]
def OkR (r : Int × Int) : Prop := r.2 = 0 ∨ r = (0, 12)
theorem ite_okR {c : Prop} [Decidable c] {a b : Int × Int} (ha : OkR a) (hb : OkR b) : OkR (if c then a else b) := by split <;> assumption
theorem ar_okR (op x y : Int) : OkR (arV op x y) := by
  unfold arV
  repeat' (refine ite_okR ?_ ?_)
  all_goals first | exact .inl rfl | exact .inr rfl
theorem ar_zero (op x y : Int) (h : (arV op x y).2 ≠ 0) : (arV op x y).1 = 0 := by
  rcases ar_okR op x y with h1 | h1
  · exact absurd h1 h
  · rw [h1]
theorem num_form (op x y : Int) : ∃ (a : Int) (t : List UInt8) (c : Int), valE (arV op x y) = valV a (arV op x y).1 t c := by
  unfold valE
  split
  · exact ⟨1, [], 0, rfl⟩
  · rename_i h
    rw [ar_zero op x y h]
    exact ⟨0, [], 0, rfl⟩
set_option maxRecDepth 100000 in
set_option maxHeartbeats 2000000 in
theorem number_op (op x y r : Int) (H : Hid ((arV op x y).1 = r)) (w : World) (ho : 60 ≤ op) (ho2 : op ≤ 71) (hx : 0 ≤ x) (hx2 : x ≤ 18446744073709551615) (hy : 0 ≤ y) (hy2 : y ≤ 18446744073709551615) :
    Calls Tryd.prog 15 #[.int .i64 op, .int .u64 x, .int .u64 y] w fun e w' => e = .returned (.int .u64 r) ∧ Below w.heap.size w w' := by
  obtain ⟨a, t, c, hf⟩ := num_form op x y
  have HB : Hid (binV op 1 x [] 1 y [] = (valV a r t c, (arV op x y).2)) := Lib.hid (by rw [bin_num op x y ho ho2, hf, H.out])
  obtain ⟨er, he⟩ : ∃ er, (arV op x y).2 = er := ⟨_, rfl⟩
  rw [he] at HB
  clear hf he
  go_enter Tryd.func15, Tryd.ntmps15
  go_wp2_with fail
  ((with_reducible refine (number_any x _).mono ?_))
  rintro e w1 ⟨rfl, hb⟩
  have HB1 := Lib.hid hb
  clear hb
  go_wp2_with fail
  ((with_reducible refine (number_any y _).mono ?_))
  rintro e w2 ⟨rfl, hb⟩
  have HB2 := Lib.hid (bel_then HB1.out (Nat.le_refl _) hb)
  clear hb HB1
  go_wp2_with fail
  ((with_reducible refine (bin_is op 1 x 0 1 y 0 [] [] _ _ HB _ (by simp) (by simp) hx hy hx2 hy2).mono ?_))
  rintro e w3 ⟨rfl, hb⟩
  have HB3 := Lib.hid (bel_then HB2.out (Nat.le_refl _) hb)
  clear hb HB2
  go_wp2_with fail
  go_ret
  exact ⟨rfl, HB3.out.alloc HB3.out.size _⟩
theorem ret_un (tmps : Array Value) (w : World) (b : Nat) (c0 c1 c2 c3 : Value) (h2 : tmps.getD 4 undef = .pointer (some ⟨b, 0, none⟩)) (hb : w.heap[b]? = some (.cells #[c0, c1, c2, c3] 24 (0, 0))) :
    (results Tryd.f6 tmps).run Tryd.prog w = .ok (.tuple #[.agg #[c0, c1, c2, c3], tmps.getD 5 undef]) w := by
  obtain ⟨e0, e1, e2, e3⟩ := cells4 hb
  have h2' : tmps[4]?.getD undef = .pointer (some ⟨b, 0, none⟩) := by rw [← h2]; simp
  simp [results]
  go_simp
/-- The complement. -/
def notV (x : Int) : Int := bits .xor .u64 IntKind.u64.max x
theorem notV_in (x : Int) : 0 ≤ notV x ∧ notV x ≤ 18446744073709551615 := bits_within .xor .u64 _ _
set_option maxRecDepth 100000 in
set_option maxHeartbeats 2000000 in
theorem un_not (x y : Int) (H : Hid (notV x = y)) (w : World) (hx : 0 ≤ x) (hx2 : x ≤ 18446744073709551615) : Calls Tryd.prog 6 #[.int .i64 77, valV 1 x [] 0] w fun e w' => e = .returned (.tuple #[valV 1 y [] 0, .int .i64 0]) ∧ Below w.heap.size w w' := by
  have HA0 := Lib.hid (CAt.start w 1 x [] 0)
  have hsg : IntKind.u64.signed = false := rfl
  obtain ⟨b0, b1, b2, b3⟩ := HA0.out.1.cells
  go_enter Tryd.func6, Tryd.ntmps6
  go_wp2_with fail
  ((with_reducible refine (valid_is 1 x 0 [] true (Lib.hid (by decide)) _ (by simp)).mono ?_))
  rintro e w1 ⟨rfl, hb⟩
  have HA1 := Lib.hid (HA0.out.below hb)
  clear hb HA0 b0 b1 b2 b3
  obtain ⟨b0, b1, b2, b3⟩ := HA1.out.1.cells
  go_wp2_with fail
  ((with_reducible refine (integer_is 1 x 0 [] x 0 (Lib.hid intV_int) _ (by simp)).mono ?_))
  rintro e w2 ⟨rfl, hb⟩
  have HA2 := Lib.hid (HA1.out.below hb)
  clear hb HA1 b0 b1 b2 b3
  go_wp2_with fail
  rw [show bits .xor .u64 IntKind.u64.max x = y from H.out]
  ((with_reducible refine (intRes_ok y _).mono ?_))
  rintro e w3 ⟨rfl, hb⟩
  have HA3 := Lib.hid (HA2.out.below hb)
  clear hb HA2
  have hn := HA3.out.2
  obtain ⟨c0, c1, c2, c3⟩ := cells4 hn
  have f0 := free3 hn 0
  have f1 := free3 hn 1
  have f2 := free3 hn 2
  have f3 := free3 hn 3
  clear hn
  go_wp2_with fail
  exact bodyPost_ret (ret_un _ _ _ _ _ _ _ rfl (put4 HA3.out.2 _ _ _ _)) rfl ⟨rfl, bel4 HA3.out.1.2 (by omega) _ _ _ _⟩
/-- Unary at OpNot of a number. -/
theorem de_morgan (a b : Int) (ha : 0 ≤ a) (ha2 : a ≤ 18446744073709551615) (hb : 0 ≤ b) (hb2 : b ≤ 18446744073709551615) : notV (bits .and .u64 a b) = bits .or .u64 (notV a) (notV b) := by
  obtain ⟨x, rfl⟩ := Int.eq_ofNat_of_zero_le ha
  obtain ⟨y, rfl⟩ := Int.eq_ofNat_of_zero_le hb
  have hx : x < 18446744073709551616 := by omega
  have hy : y < 18446744073709551616 := by omega
  have e : (IntKind.u64.max : Int) = ((18446744073709551615 : Nat) : Int) := rfl
  have p64 : 18446744073709551616 = 2 ^ 64 := by decide
  have m64 : 18446744073709551615 = 2 ^ 64 - 1 := by decide
  have hxl : ∀ z : Nat, z < 18446744073709551616 → (18446744073709551615 ^^^ z) < 18446744073709551616 := fun z hz => by
    rw [p64] at hz ⊢; exact Nat.xor_lt_two_pow (by omega) hz
  have hal : x &&& y < 18446744073709551616 := by rw [p64] at hx ⊢; exact Nat.and_lt_two_pow _ (by rw [p64] at hy; exact hy)
  unfold notV
  rw [e, bits_and_u64_nat x y hx hy, bits_xor_u64_nat _ _ (by omega) hal, bits_xor_u64_nat _ _ (by omega) hx, bits_xor_u64_nat _ _ (by omega) hy, bits_or_u64_nat _ _ (hxl x hx) (hxl y hy)]
  congr 1
  apply Nat.eq_of_testBit_eq
  intro i
  rw [Nat.testBit_or, Nat.testBit_xor, Nat.testBit_xor, Nat.testBit_xor, Nat.testBit_and]
  by_cases hi : i < 64
  · rw [m64, Nat.testBit_two_pow_sub_one]
    simp only [hi, decide_true]
    cases x.testBit i <;> cases y.testBit i <;> rfl
  · have t0 : ∀ z : Nat, z < 18446744073709551616 → z.testBit i = false := fun z hz => by
      apply Nat.testBit_lt_two_pow
      rw [p64] at hz
      exact Nat.lt_of_lt_of_le hz (Nat.pow_le_pow_right (by omega) (by omega))
    rw [t0 x hx, t0 y hy, t0 18446744073709551615 (by omega)]
    rfl
theorem ar60 (x y : Int) : (arV 60 x y).1 = (x + y) % 18446744073709551616 := by rw [← IntKind.wrap_u64]; rfl
theorem ar61 (x y : Int) : (arV 61 x y).1 = (x - y) % 18446744073709551616 := by rw [← IntKind.wrap_u64]; rfl
theorem ar62 (x y : Int) : (arV 62 x y).1 = (x * y) % 18446744073709551616 := by rw [← IntKind.wrap_u64]; rfl
theorem ar63 (x y : Int) (h : y ≠ 0) : (arV 63 x y).1 = x / y ∧ (arV 63 x y).2 = 0 := by unfold arV; simp [h]
theorem ar64 (x y : Int) (h : y ≠ 0) : (arV 64 x y).1 = x % y := by unfold arV; simp [h]
theorem ar65 (x y : Int) : (arV 65 x y).1 = bits .and .u64 x y := rfl
theorem ar66 (x y : Int) : (arV 66 x y).1 = bits .or .u64 x y := rfl
theorem ar68 (x y : Int) (h : y < 64) : (arV 68 x y).1 = (x * 2 ^ y.toNat) % 18446744073709551616 := by rw [← IntKind.wrap_u64]; unfold arV; simp [h]
theorem add_sub (a b : Int) (ha : 0 ≤ a) (ha2 : a ≤ 18446744073709551615) : (arV 61 (arV 60 a b).1 b).1 = a := by
  rw [ar61, ar60]; omega
theorem div_mod (a b : Int) (ha : 0 ≤ a) (ha2 : a ≤ 18446744073709551615) (hb : 0 < b) : (arV 60 (arV 62 (arV 63 a b).1 b).1 (arV 64 a b).1).1 = a := by
  rw [ar60, ar62, (ar63 a b (by omega)).1, ar64 a b (by omega)]
  have h1 : a / b * b + a % b = a := by rw [Int.mul_comm]; exact Int.mul_ediv_add_emod a b
  have h2 : 0 ≤ a / b * b := Int.mul_nonneg (Int.ediv_nonneg ha (by omega)) (by omega)
  have h3 := Int.emod_nonneg a (show b ≠ 0 by omega)
  rw [Int.emod_eq_of_lt h2 (by omega), h1]
  omega
end Go.Proofs.YteifmjhkedhomaaDoor
