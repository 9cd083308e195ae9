/- The walks of BytecodeIntegers and BytecodeDecodesIntegers: each returns true and writes nothing that was there. -/
import Derived.Test.YtihfhkpglfobfaaAwake
namespace Go.Proofs.Ytihfhkpglfobfaa
open Go.RowKit
attribute [local go_sem] conv1 conv2 ByteArray.mk_append_mk get_mk cut_mk

theorem rdNum_little (v n least : Nat) (t : List UInt8) (h1 : least ≤ v) (h2 : v < 256 ^ n) (h3 : v ≠ top64) : rdNum (little v n ++ t) n least = (v, 1 + n, 0) := by
  have ht : (little v n ++ t).take n = little v n := by
    rw [List.take_append_of_le_length (by rw [little_length]; exact Nat.le_refl _), List.take_of_length_le (by rw [little_length]; exact Nat.le_refl _)]
  have hn : num (little v n) = v := by rw [num_little, Nat.mod_eq_of_lt h2]
  rw [rdNum, if_neg (by rw [List.length_append, little_length]; omega), ht, hn, if_neg (by omega)]

theorem rdInt_10 (r : List UInt8) : rdInt (10 :: r) = rdNum r 1 2 := by
  rw [rdInt, if_neg (by decide), if_neg (by decide), if_pos (by decide)]
theorem rdInt_11 (r : List UInt8) : rdInt (11 :: r) = rdNum r 2 256 := by
  rw [rdInt, if_neg (by decide), if_neg (by decide), if_neg (by decide), if_pos (by decide)]
theorem rdInt_12 (r : List UInt8) : rdInt (12 :: r) = rdNum r 4 65536 := by
  rw [rdInt, if_neg (by decide), if_neg (by decide), if_neg (by decide), if_neg (by decide), if_pos (by decide)]
theorem rdInt_14 (r : List UInt8) : rdInt (14 :: r) = rdNum r 8 4294967296 := by
  rw [rdInt, if_neg (by decide), if_neg (by decide), if_neg (by decide), if_neg (by decide), if_neg (by decide), if_pos (by decide)]
theorem rdInt_enc (v : Nat) (t : List UInt8) (hv : v ≤ top64) : rdInt (encInt v ++ t) = (v, (encInt v).length, 0) := by
  have htop : top64 = 18446744073709551615 := rfl
  unfold encInt
  by_cases h1 : v ≤ 1
  · rw [if_pos h1]
    obtain rfl | rfl : v = 0 ∨ v = 1 := by omega
    · rfl
    · rfl
  · rw [if_neg h1]
    by_cases h2 : v = top64
    · rw [if_pos h2, h2]; rfl
    · rw [if_neg h2]
      by_cases h3 : v < 256
      · rw [if_pos h3]
        rw [List.cons_append, rdInt_10]
        rw [rdNum_little v 1 2 t (by omega) (by omega) h2]; simp [little_length]
      · rw [if_neg h3]
        by_cases h4 : v < 65536
        · rw [if_pos h4]
          rw [List.cons_append, rdInt_11]
          rw [rdNum_little v 2 256 t (by omega) (by omega) h2]; simp [little_length]
        · rw [if_neg h4]
          by_cases h5 : v < 4294967296
          · rw [if_pos h5]
            rw [List.cons_append, rdInt_12]
            rw [rdNum_little v 4 65536 t (by omega) (by omega) h2]; simp [little_length]
          · rw [if_neg h5]
            rw [List.cons_append, rdInt_14]
            rw [rdNum_little v 8 4294967296 t (by omega) (by omega) h2]; simp [little_length]

theorem int_enc (x : Int) (l t : List UInt8) (w : World) (HL : Hid (l = encInt x.toNat)) (hx : 0 ≤ x) (hx' : x ≤ 18446744073709551615) (hl : l.length ≤ 9) (ht : t.length ≤ 9223372036854770000) :
    Calls Try.prog 11 #[.string ⟨(l ++ t).toArray⟩] w fun e w' => e = .returned (.tuple #[.int .u64 x, .int .i64 l.length, .int .i64 0]) ∧ w = w' := by
  have htop : top64 = 18446744073709551615 := rfl
  refine (int_any (l ++ t) w (by rw [List.length_append]; omega)).mono fun e w' ⟨he, hw⟩ => ⟨?_, hw⟩
  rw [he, HL.out, rdInt_enc _ _ (by omega)]
  simp only [res3, Int.toNat_of_nonneg hx]
  rfl

set_option maxHeartbeats 1000000 in
theorem law_integers (b t : List UInt8) (v sh : Int) (w : World) (hb : b.length ≤ 140737488355328) (ht : t.length ≤ 140737488355328) (hv : 0 ≤ v) (hv' : v ≤ 18446744073709551615) (hs : 0 ≤ sh) (hs' : sh ≤ 255) :
    Calls Try.prog 3 #[.string ⟨b.toArray⟩, .int .u64 v, .int .u8 sh, .string ⟨t.toArray⟩] w fun e w' => e = .returned (.bool true) ∧ Below w.heap.size w w' := by
  have hx0 : 0 ≤ v / 2 ^ (sh % 64).toNat := Int.ediv_nonneg hv (Int.pow_nonneg (by omega))
  have hx1 : v / 2 ^ (sh % 64).toNat ≤ v := Int.ediv_le_self _ hv
  go_enter Try.func3, Try.ntmps3
  go_wp2_with fail
  generalize v / 2 ^ (sh % 64).toNat = x at *
  refine (appendInt_any b x _ hx0 (by omega)).mono ?_
  rintro e w1 ⟨rfl, hb1⟩
  go_wp2_with fail
  refine (refInt_v x _ hx0).mono ?_
  rintro e w2 ⟨l, HL, hl, rfl, hb2⟩
  go_wp2_with fail
  refine (int_enc x l t _ HL hx0 (by omega) hl (by omega)).mono ?_
  rintro e w3 ⟨rfl, rfl⟩
  go_wp2_with fail
  refine (awake_any _).mono ?_
  rintro e w3 ⟨rfl, hb3⟩
  go_wp2_with fail
  refine (refInt_any x _ hx0).mono ?_
  rintro e w4 ⟨rfl, hb4⟩
  rw [← HL.out]
  go_wp2_with fail
  refine (refInt_any x _ hx0).mono ?_
  rintro e w5 ⟨rfl, hb5⟩
  rw [← HL.out]
  go_wp2_with fail
  go_ret
  exact ⟨rfl, Grows.trans (Grows.trans (Grows.trans (Grows.trans hb1 hb2) hb3) hb4) hb5⟩

theorem int_e (s : List UInt8) (w : World) (hm : s.length ≤ 9223372036854775000) :
    Calls Try.prog 11 #[.string ⟨s.toArray⟩] w fun e w' => e = .returned (.tuple #[.int .u64 (rdInt s).1, .int .i64 (rdInt s).2.1, .int .i64 (rdInt s).2.2]) ∧ w = w' := int_any s w hm
theorem readInt_e (s : List UInt8) (w : World) (hm : s.length ≤ 9223372036854775000) :
    Calls Try.prog 14 #[.string ⟨s.toArray⟩] w fun e w' => e = .returned (.tuple #[.int .u64 (rdInt s).1, .int .i64 (rdInt s).2.1, .int .i64 (rdInt s).2.2]) ∧ Below w.heap.size w w' := readInt_any s w hm

set_option maxHeartbeats 1000000 in
theorem law_decodes (s : List UInt8) (sh : Int) (w : World) (hl : s.length ≤ 140737488355328) (hs : 0 ≤ sh) (hs' : sh ≤ 255) :
    Calls Try.prog 4 #[.string ⟨s.toArray⟩, .int .u8 sh] w fun e w' => e = .returned (.bool true) ∧ Below w.heap.size w w' := by
  have h8 : sh % 8 + 1 ≤ 8 := by omega
  go_enter Try.func4, Try.ntmps4
  go_wp2_with fail
  refine (int_e s _ (by omega)).mono ?_
  rintro e w1 ⟨rfl, rfl⟩
  go_wp2_with fail
  refine (readInt_e s _ (by omega)).mono ?_
  rintro e w1 ⟨rfl, hb1⟩
  go_wp2_with fail
  refine (int_e _ _ (by simp; omega)).mono ?_
  rintro e w2 ⟨rfl, rfl⟩
  go_wp2_with fail
  refine (readInt_e _ _ (by simp; omega)).mono ?_
  rintro e w2 ⟨rfl, hb2⟩
  go_wp2_with fail
  refine (awake_any _).mono ?_
  rintro e w3 ⟨rfl, hb3⟩
  go_wp2_with fail
  go_ret
  exact ⟨rfl, Grows.trans (Grows.trans hb1 hb2) hb3⟩
end Go.Proofs.Ytihfhkpglfobfaa
