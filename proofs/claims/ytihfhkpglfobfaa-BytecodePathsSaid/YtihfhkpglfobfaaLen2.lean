/- Length and ReadLength: the walks, each function once. -/
import Derived.Test.YtihfhkpglfobfaaAwake
namespace Go.Proofs.Ytihfhkpglfobfaa
open Go.RowKit
attribute [local go_sem] conv1 conv2 ByteArray.mk_append_mk get_mk cut_mk byte_and15 byte_and63 byte_and48

/-- A length in k bytes, k from 2 to 4, lim: the limit of k - 1 bytes. -/
def rdLenK (c : UInt8) (r : List UInt8) (k lim : Nat) : Int × Nat × Nat :=
  if c.toNat / 16 % 4 ≠ 0 then (0, 0, 3)
  else if r.length + 1 < k then (0, 0, 4)
  else if c.toNat % 16 + 16 * num (r.take (k - 1)) < lim + 1 then (0, 0, 3)
  else ((c.toNat % 16 + 16 * num (r.take (k - 1)) : Nat) - (k : Int), k, 0)

/-- What Length returns: the length, the length of its encoding, the error. -/
def rdLen : List UInt8 → Int × Nat × Nat
  | [] => (0, 0, 4)
  | c :: r =>
    if c.toNat = 0 then (0, 0, 3)
    else if c.toNat < 64 then ((c.toNat : Int) - 1, 1, 0)
    else if c.toNat < 128 then rdLenK c r 2 64
    else if c.toNat < 192 then rdLenK c r 3 4096
    else rdLenK c r 4 1048576

def resL (x : Int × Nat × Nat) : Value := .tuple #[.int .i64 x.1, .int .i64 x.2.1, .int .i64 x.2.2]
theorem resL_is {x : Int × Nat × Nat} {a b c : Int} (h : x = (a, b.toNat, c.toNat)) (hb : 0 ≤ b) (hc : 0 ≤ c) : Ending.returned (.tuple #[.int .i64 a, .int .i64 b, .int .i64 c]) = .returned (resL x) := by
  subst h
  simp only [resL, Int.toNat_of_nonneg hb, Int.toNat_of_nonneg hc]

theorem number_w (s : List UInt8) (v : Int) (w : World) (hs : s.length ≤ 8) (HV : Hid (v = (num s : Nat))) :
    Calls Try.prog 32 #[.string ⟨s.toArray⟩] w fun e w' => e = .returned (.int .u64 v) ∧ w = w' := by rw [HV.out]; exact number_any s w hs
theorem rnumber_w (s : List UInt8) (v : Int) (w : World) (hs : s.length ≤ 8) (HV : Hid (v = (num s : Nat))) :
    Calls Try.prog 34 #[.string ⟨s.toArray⟩] w fun e w' => e = .returned (.int .u64 v) ∧ w = w' := by rw [HV.out]; exact rnumber_any s w hs

theorem num_take_lt (r : List UInt8) (k : Nat) (h : k ≤ r.length) : num (r.take k) < 256 ^ k := by
  have := num_lt (r.take k)
  rwa [List.length_take, Nat.min_eq_left h] at this

theorem and48_ne {x : Int} (h : (x / 16 % 4 * 16 != 0) = true) : x / 16 % 4 ≠ 0 := by
  simp only [bne_iff_ne, ne_eq] at h; omega
theorem and48_eq {x : Int} (h : (x / 16 % 4 * 16 != 0) = false) : x / 16 % 4 = 0 := by
  simp only [bne_eq_false_iff_eq] at h; omega
theorem rdLenK_48 {c : UInt8} {r : List UInt8} {k lim : Nat} (h : ((c.toNat : Int) / 16 % 4 * 16 != 0) = true) : rdLenK c r k lim = (0, 0, 3) := by
  have := and48_ne h
  rw [rdLenK, if_pos (by omega)]
theorem rdLenK_short {c : UInt8} {r : List UInt8} {k lim : Nat} (h : ((c.toNat : Int) / 16 % 4 * 16 != 0) = false) (hr : (r.length : Int) + 1 < k) : rdLenK c r k lim = (0, 0, 4) := by
  have := and48_eq h
  rw [rdLenK, if_neg (by omega), if_pos (by omega)]
theorem rdLenK_low {c : UInt8} {r : List UInt8} {k lim : Nat} {v : Int} (h : ((c.toNat : Int) / 16 % 4 * 16 != 0) = false) (hr : ¬ (r.length : Int) + 1 < k) (HV : Hid (v = (num (r.take (k - 1)) : Nat))) (hl : (c.toNat : Int) % 16 + v * 16 - 1 < lim) : rdLenK c r k lim = (0, 0, 3) := by
  have := and48_eq h
  have := HV.out
  rw [rdLenK, if_neg (by omega), if_neg (by omega), if_pos (by omega)]
theorem rdLenK_ok {c : UInt8} {r : List UInt8} {k lim : Nat} {v : Int} (h : ((c.toNat : Int) / 16 % 4 * 16 != 0) = false) (hr : ¬ (r.length : Int) + 1 < k) (HV : Hid (v = (num (r.take (k - 1)) : Nat))) (hl : ¬ (c.toNat : Int) % 16 + v * 16 - 1 < lim) : rdLenK c r k lim = ((c.toNat : Int) % 16 + v * 16 - k, k, 0) := by
  have := and48_eq h
  have := HV.out
  rw [rdLenK, if_neg (by omega), if_neg (by omega), if_neg (by omega)]
  simp only [Prod.mk.injEq, and_true]
  omega

/-- The forms of two, three and four bytes: the number of bytes, the limit of one byte less. -/
def FormL (k lim : Nat) : Prop := (k = 2 ∧ lim = 64) ∨ (k = 3 ∧ lim = 4096) ∨ (k = 4 ∧ lim = 1048576)

theorem encLen_low {k lim : Nat} (hf : FormL k lim) (n : Int) (h0 : 0 ≤ n) (h : n + k - 1 < lim) : (encLen n).length < k := by
  unfold encLen
  rcases hf with ⟨rfl, rfl⟩ | ⟨rfl, rfl⟩ | ⟨rfl, rfl⟩ <;> (repeat' split) <;> first | (exfalso; omega) | (simp [lenCode, little_length]; done)

theorem lenCode_is {k lim : Nat} (hf : FormL k lim) (c : UInt8) (l : List UInt8) (t : Nat) (hl : l.length = k - 1) (hc : c.toNat / 64 = k - 1) (h48 : c.toNat / 16 % 4 = 0) (ht : t = c.toNat % 16 + 16 * num l) : lenCode t k = c :: l := by
  have hb := little_num l
  rw [hl] at hb
  have h1 : (k - 1) * 64 + t % 16 = c.toNat := by rcases hf with ⟨rfl, rfl⟩ | ⟨rfl, rfl⟩ | ⟨rfl, rfl⟩ <;> omega
  have h2 : t / 16 = num l := by omega
  rw [lenCode, h1, h2, hb]
  simp

theorem encLen_high {k lim : Nat} (hf : FormL k lim) (n : Int) (h : ¬ n + k - 1 < lim) (h' : n + k < 16 * 256 ^ (k - 1)) : encLen n = lenCode (n + k).toNat k := by
  unfold encLen
  rcases hf with ⟨rfl, rfl⟩ | ⟨rfl, rfl⟩ | ⟨rfl, rfl⟩
  · rw [if_neg (by omega), if_neg (by omega), if_pos (by omega)]; rfl
  · rw [if_neg (by omega), if_neg (by omega), if_neg (by omega), if_pos (by omega)]; rfl
  · rw [if_neg (by omega), if_neg (by omega), if_neg (by omega), if_neg (by omega), if_pos (by omega)]; rfl

/-- What the reference's last test comes to. -/
theorem len_test {c : UInt8} {r : List UInt8} {k lim : Nat} {v : Int} (hf : FormL k lim) (hc : (c.toNat : Int) / 64 = (k : Int) - 1) (h : ((c.toNat : Int) / 16 % 4 * 16 != 0) = false) (hr : ¬ (r.length : Int) + 1 < k) (HV : Hid (v = (num (r.take (k - 1)) : Nat)))
    (hk : ¬ (c.toNat : Int) % 16 + v * 16 < k) (b : Bool) (hb : (!encLen ((c.toNat : Int) % 16 + v * 16 - k) == c :: r.take (k - 1)) = b) :
    rdLenK c r k lim = if b then (0, 0, 3) else ((c.toNat : Int) % 16 + v * 16 - k, k, 0) := by
  have h48 := and48_eq h
  have hV := HV.out
  have hkk : 2 ≤ k ∧ k ≤ 4 := by rcases hf with ⟨rfl, rfl⟩ | ⟨rfl, rfl⟩ | ⟨rfl, rfl⟩ <;> omega
  have hl : (r.take (k - 1)).length = k - 1 := by rw [List.length_take]; omega
  by_cases hlow : (c.toNat : Int) % 16 + v * 16 - 1 < lim
  · have h1 := encLen_low hf ((c.toNat : Int) % 16 + v * 16 - k) (by omega) (by omega)
    have hb' : b = true := by
      rw [← hb]
      simp only [Bool.not_eq_true', beq_eq_false_iff_ne, ne_eq]
      intro he
      rw [he, List.length_cons, hl] at h1
      omega
    rw [rdLenK_low h hr HV hlow, if_pos hb']
  · have hlt := num_lt (r.take (k - 1))
    rw [hl] at hlt
    have hp : (256 ^ (k - 1) : Int) = ((256 ^ (k - 1) : Nat) : Int) := by rw [Int.natCast_pow]; rfl
    have h1 := encLen_high hf ((c.toNat : Int) % 16 + v * 16 - k) (by omega) (by rw [hp]; omega)
    rw [lenCode_is hf c (r.take (k - 1)) _ hl (by omega) (by omega) (by omega)] at h1
    have hb' : b = false := by rw [← hb, h1]; simp
    rw [rdLenK_ok h hr HV hlow, if_neg (by simp [hb'])]

theorem and48_cases (x : Int) : (x / 16 % 4 * 16 != 0) = true ∨ (x / 16 % 4 * 16 != 0) = false := by
  cases h : (x / 16 % 4 * 16 != 0) <;> simp

theorem rdLen_one {c : UInt8} {r : List UInt8} (hz : ¬ (c.toNat : Int) < 1) (hc : c.toNat < 64) : rdLen (c :: r) = ((c.toNat : Int) - 1, 1, 0) := by
  rw [rdLen, if_neg (by omega), if_pos hc]
theorem encLen_one {c : UInt8} (hz : ¬ (c.toNat : Int) < 1) (hc : c.toNat < 64) : encLen ((c.toNat : Int) - 1) = [c] := by
  rw [encLen, if_neg (by omega), if_pos (by omega), show ((c.toNat : Int) - 1 + 1).toNat = c.toNat by omega]; simp
theorem rdLen_k2 {c : UInt8} {r : List UInt8} (h1 : 64 ≤ c.toNat) (h2 : c.toNat < 128) : rdLen (c :: r) = rdLenK c r 2 64 := by
  rw [rdLen, if_neg (by omega), if_neg (by omega), if_pos h2]
theorem rdLen_k3 {c : UInt8} {r : List UInt8} (h1 : 128 ≤ c.toNat) (h2 : c.toNat < 192) : rdLen (c :: r) = rdLenK c r 3 4096 := by
  rw [rdLen, if_neg (by omega), if_neg (by omega), if_neg (by omega), if_pos h2]
theorem rdLen_k4 {c : UInt8} {r : List UInt8} (h1 : 192 ≤ c.toNat) : rdLen (c :: r) = rdLenK c r 4 1048576 := by
  rw [rdLen, if_neg (by omega), if_neg (by omega), if_neg (by omega), if_neg (by omega)]

set_option maxRecDepth 100000 in
set_option maxHeartbeats 1000000 in
theorem length_2 (c : UInt8) (r : List UInt8) (w : World) (hm : r.length ≤ 9223372036854774000) (h1 : 64 ≤ c.toNat) (h2 : c.toNat < 128) :
    Calls Try.prog 21 #[.string ⟨(c :: r).toArray⟩] w fun e w' => e = .returned (resL (rdLenK c r 2 64)) ∧ Below w.heap.size w w' := by
  have hq : (c.toNat : Int) / 64 = 1 := by omega
  rcases and48_cases (c.toNat : Int) with h48 | h48
  · go_enter Try.func21, Try.ntmps21
    go_wp2_with fail
    go_ret3
    go_light
    exact ⟨resL_is (rdLenK_48 h48) (by omega) (by omega), Below.refl _ _⟩
  · by_cases hr : (r.length : Int) + 1 < 2
    · go_enter Try.func21, Try.ntmps21
      go_wp2_with fail
      go_ret3
      go_light
      exact ⟨resL_is (rdLenK_short h48 hr) (by omega) (by omega), Below.refl _ _⟩
    · obtain ⟨v, hv⟩ : ∃ v : Int, v = (num (r.take 1) : Nat) := ⟨_, rfl⟩
      have hlt := num_take_lt r 1 (by omega)
      have hv0 : 0 ≤ v := by omega
      have hv1 : v < 256 := by omega
      have HV := Lib.hid hv
      clear hlt hv
      have hor : bits .or .i64 ((c.toNat : Int) % 16) (v * 16) = (c.toNat : Int) % 16 + v * 16 := i64_or4' _ _ (by omega) (by omega) (by omega) (by omega) (by omega)
      go_enter Try.func21, Try.ntmps21
      go_wp2_with fail
      refine wp_region_grows (by kernel_rfl) (by kernel_rfl) ?_
      repeat (go_big_quiet_step ((intro hb; go_at_call 32; exact Calls.grows_of_same hb (number_w _ v _ (by simp; omega) HV))))
      refine wpQuiet_nil ?_
      intro w1 hg
      clear hor
      go_wp2_with (go_at_call 35; refine (limit_1 _).mono ?_; rintro e w' ⟨rfl, rfl⟩)
      · go_ret3
        go_light
        exact ⟨resL_is (rdLenK_low h48 (by omega) HV (by omega)) (by omega) (by omega), hg⟩
      · go_ret3
        go_light
        exact ⟨resL_is (rdLenK_ok h48 (by omega) HV (by omega)) (by omega) (by omega), hg⟩

set_option maxRecDepth 100000 in
set_option maxHeartbeats 1000000 in
theorem length_3 (c : UInt8) (r : List UInt8) (w : World) (hm : r.length ≤ 9223372036854774000) (h1 : 128 ≤ c.toNat) (h2 : c.toNat < 192) :
    Calls Try.prog 21 #[.string ⟨(c :: r).toArray⟩] w fun e w' => e = .returned (resL (rdLenK c r 3 4096)) ∧ Below w.heap.size w w' := by
  have hq : (c.toNat : Int) / 64 = 2 := by omega
  rcases and48_cases (c.toNat : Int) with h48 | h48
  · go_enter Try.func21, Try.ntmps21
    go_wp2_with fail
    go_ret3
    go_light
    exact ⟨resL_is (rdLenK_48 h48) (by omega) (by omega), Below.refl _ _⟩
  · by_cases hr : (r.length : Int) + 1 < 3
    · go_enter Try.func21, Try.ntmps21
      go_wp2_with fail
      go_ret3
      go_light
      exact ⟨resL_is (rdLenK_short h48 hr) (by omega) (by omega), Below.refl _ _⟩
    · obtain ⟨v, hv⟩ : ∃ v : Int, v = (num (r.take 2) : Nat) := ⟨_, rfl⟩
      have hlt := num_take_lt r 2 (by omega)
      have hv0 : 0 ≤ v := by omega
      have hv1 : v < 65536 := by omega
      have HV := Lib.hid hv
      clear hlt hv
      have hor : bits .or .i64 ((c.toNat : Int) % 16) (v * 16) = (c.toNat : Int) % 16 + v * 16 := i64_or4' _ _ (by omega) (by omega) (by omega) (by omega) (by omega)
      go_enter Try.func21, Try.ntmps21
      go_wp2_with fail
      refine wp_region_grows (by kernel_rfl) (by kernel_rfl) ?_
      repeat (go_big_quiet_step ((intro hb; go_at_call 32; exact Calls.grows_of_same hb (number_w _ v _ (by simp; omega) HV))))
      refine wpQuiet_nil ?_
      intro w1 hg
      clear hor
      go_wp2_with (go_at_call 35; refine (limit_2 _).mono ?_; rintro e w' ⟨rfl, rfl⟩)
      · go_ret3
        go_light
        exact ⟨resL_is (rdLenK_low h48 (by omega) HV (by omega)) (by omega) (by omega), hg⟩
      · go_ret3
        go_light
        exact ⟨resL_is (rdLenK_ok h48 (by omega) HV (by omega)) (by omega) (by omega), hg⟩

set_option maxRecDepth 100000 in
set_option maxHeartbeats 1000000 in
theorem length_4 (c : UInt8) (r : List UInt8) (w : World) (hm : r.length ≤ 9223372036854774000) (h1 : 192 ≤ c.toNat)  :
    Calls Try.prog 21 #[.string ⟨(c :: r).toArray⟩] w fun e w' => e = .returned (resL (rdLenK c r 4 1048576)) ∧ Below w.heap.size w w' := by
  have hq : (c.toNat : Int) / 64 = 3 := by have hc := c.toNat_lt; omega
  rcases and48_cases (c.toNat : Int) with h48 | h48
  · go_enter Try.func21, Try.ntmps21
    go_wp2_with fail
    go_ret3
    go_light
    exact ⟨resL_is (rdLenK_48 h48) (by omega) (by omega), Below.refl _ _⟩
  · by_cases hr : (r.length : Int) + 1 < 4
    · go_enter Try.func21, Try.ntmps21
      go_wp2_with fail
      go_ret3
      go_light
      exact ⟨resL_is (rdLenK_short h48 hr) (by omega) (by omega), Below.refl _ _⟩
    · obtain ⟨v, hv⟩ : ∃ v : Int, v = (num (r.take 3) : Nat) := ⟨_, rfl⟩
      have hlt := num_take_lt r 3 (by omega)
      have hv0 : 0 ≤ v := by omega
      have hv1 : v < 16777216 := by omega
      have HV := Lib.hid hv
      clear hlt hv
      have hor : bits .or .i64 ((c.toNat : Int) % 16) (v * 16) = (c.toNat : Int) % 16 + v * 16 := i64_or4' _ _ (by omega) (by omega) (by omega) (by omega) (by omega)
      go_enter Try.func21, Try.ntmps21
      go_wp2_with fail
      refine wp_region_grows (by kernel_rfl) (by kernel_rfl) ?_
      repeat (go_big_quiet_step ((intro hb; go_at_call 32; exact Calls.grows_of_same hb (number_w _ v _ (by simp; omega) HV))))
      refine wpQuiet_nil ?_
      intro w1 hg
      clear hor
      go_wp2_with (go_at_call 35; refine (limit_3 _).mono ?_; rintro e w' ⟨rfl, rfl⟩)
      · go_ret3
        go_light
        exact ⟨resL_is (rdLenK_low h48 (by omega) HV (by omega)) (by omega) (by omega), hg⟩
      · go_ret3
        go_light
        exact ⟨resL_is (rdLenK_ok h48 (by omega) HV (by omega)) (by omega) (by omega), hg⟩

set_option maxRecDepth 100000 in
set_option maxHeartbeats 1000000 in
theorem readLength_2 (c : UInt8) (r : List UInt8) (w : World) (hm : r.length ≤ 9223372036854774000) (h1 : 64 ≤ c.toNat) (h2 : c.toNat < 128) :
    Calls Try.prog 22 #[.string ⟨(c :: r).toArray⟩] w fun e w' => e = .returned (resL (rdLenK c r 2 64)) ∧ Below w.heap.size w w' := by
  have hq : (c.toNat : Int) / 64 = 1 := by omega
  rcases and48_cases (c.toNat : Int) with h48 | h48
  · go_enter Try.func22, Try.ntmps22
    go_wp2_with fail
    go_ret3
    go_light
    exact ⟨resL_is (rdLenK_48 h48) (by omega) (by omega), Below.refl _ _⟩
  · by_cases hr : (r.length : Int) + 1 < 2
    · go_enter Try.func22, Try.ntmps22
      go_wp2_with fail
      go_ret3
      go_light
      exact ⟨resL_is (rdLenK_short h48 hr) (by omega) (by omega), Below.refl _ _⟩
    · obtain ⟨v, hv⟩ : ∃ v : Int, v = (num (r.take 1) : Nat) := ⟨_, rfl⟩
      have hlt := num_take_lt r 1 (by omega)
      have hv0 : 0 ≤ v := by omega
      have hv1 : v < 256 := by omega
      have HV := Lib.hid hv
      clear hlt hv
      have hor : bits .or .i64 ((c.toNat : Int) % 16) (v * 16) = (c.toNat : Int) % 16 + v * 16 := i64_or4' _ _ (by omega) (by omega) (by omega) (by omega) (by omega)
      by_cases hk : (c.toNat : Int) % 16 + v * 16 < 2
      · go_enter Try.func22, Try.ntmps22
        go_wp2_with fail
        refine wp_region_grows (by kernel_rfl) (by kernel_rfl) ?_
        repeat (go_big_quiet_step ((intro hb; go_at_call 34; exact Calls.grows_of_same hb (rnumber_w _ v _ (by simp; omega) HV))))
        refine wpQuiet_nil ?_
        intro w1 hg
        clear hor
        go_wp2_with fail
        refine wp_region_grows (by kernel_rfl) (by kernel_rfl) ?_
        repeat (go_big_quiet_step ((intro hb; go_at_call 19; exact Calls.grows_of hb (refLength_any _ _ (by omega) (by omega)))))
        refine wpQuiet_nil ?_
        intro w2 hg2
        go_wp2_with fail
        go_ret3
        go_light
        exact ⟨resL_is (rdLenK_low h48 (by omega) HV (by omega)) (by omega) (by omega), Grows.trans hg hg2⟩
      · have hd : decide ((c.toNat : Int) % 16 + v * 16 < 2) = false := by simpa using hk
        go_enter Try.func22, Try.ntmps22
        go_wp2_with fail
        refine wp_region_grows (by kernel_rfl) (by kernel_rfl) ?_
        repeat (go_big_quiet_step ((intro hb; go_at_call 34; exact Calls.grows_of_same hb (rnumber_w _ v _ (by simp; omega) HV))))
        refine wpQuiet_nil ?_
        intro w1 hg
        clear hor
        go_wp2_with fail
        refine wp_region_grows (by kernel_rfl) (by kernel_rfl) ?_
        repeat (go_big_quiet_step ((intro hb; go_at_call 19; exact Calls.grows_of hb (refLength_any _ _ (by omega) (by omega)))))
        refine wpQuiet_nil ?_
        intro w2 hg2
        go_wp2_with fail
        all_goals
          go_ret3
          go_light
          exact ⟨resL_is (Eq.trans (len_test (by first | exact .inl ⟨rfl, rfl⟩ | exact .inr (.inl ⟨rfl, rfl⟩) | exact .inr (.inr ⟨rfl, rfl⟩)) (by omega) h48 (by omega) HV (by omega) _ ‹_›) rfl) (by omega) (by omega), Grows.trans hg hg2⟩

set_option maxRecDepth 100000 in
set_option maxHeartbeats 1000000 in
theorem readLength_3 (c : UInt8) (r : List UInt8) (w : World) (hm : r.length ≤ 9223372036854774000) (h1 : 128 ≤ c.toNat) (h2 : c.toNat < 192) :
    Calls Try.prog 22 #[.string ⟨(c :: r).toArray⟩] w fun e w' => e = .returned (resL (rdLenK c r 3 4096)) ∧ Below w.heap.size w w' := by
  have hq : (c.toNat : Int) / 64 = 2 := by omega
  rcases and48_cases (c.toNat : Int) with h48 | h48
  · go_enter Try.func22, Try.ntmps22
    go_wp2_with fail
    go_ret3
    go_light
    exact ⟨resL_is (rdLenK_48 h48) (by omega) (by omega), Below.refl _ _⟩
  · by_cases hr : (r.length : Int) + 1 < 3
    · go_enter Try.func22, Try.ntmps22
      go_wp2_with fail
      go_ret3
      go_light
      exact ⟨resL_is (rdLenK_short h48 hr) (by omega) (by omega), Below.refl _ _⟩
    · obtain ⟨v, hv⟩ : ∃ v : Int, v = (num (r.take 2) : Nat) := ⟨_, rfl⟩
      have hlt := num_take_lt r 2 (by omega)
      have hv0 : 0 ≤ v := by omega
      have hv1 : v < 65536 := by omega
      have HV := Lib.hid hv
      clear hlt hv
      have hor : bits .or .i64 ((c.toNat : Int) % 16) (v * 16) = (c.toNat : Int) % 16 + v * 16 := i64_or4' _ _ (by omega) (by omega) (by omega) (by omega) (by omega)
      by_cases hk : (c.toNat : Int) % 16 + v * 16 < 3
      · go_enter Try.func22, Try.ntmps22
        go_wp2_with fail
        refine wp_region_grows (by kernel_rfl) (by kernel_rfl) ?_
        repeat (go_big_quiet_step ((intro hb; go_at_call 34; exact Calls.grows_of_same hb (rnumber_w _ v _ (by simp; omega) HV))))
        refine wpQuiet_nil ?_
        intro w1 hg
        clear hor
        go_wp2_with fail
        refine wp_region_grows (by kernel_rfl) (by kernel_rfl) ?_
        repeat (go_big_quiet_step ((intro hb; go_at_call 19; exact Calls.grows_of hb (refLength_any _ _ (by omega) (by omega)))))
        refine wpQuiet_nil ?_
        intro w2 hg2
        go_wp2_with fail
        go_ret3
        go_light
        exact ⟨resL_is (rdLenK_low h48 (by omega) HV (by omega)) (by omega) (by omega), Grows.trans hg hg2⟩
      · have hd : decide ((c.toNat : Int) % 16 + v * 16 < 3) = false := by simpa using hk
        go_enter Try.func22, Try.ntmps22
        go_wp2_with fail
        refine wp_region_grows (by kernel_rfl) (by kernel_rfl) ?_
        repeat (go_big_quiet_step ((intro hb; go_at_call 34; exact Calls.grows_of_same hb (rnumber_w _ v _ (by simp; omega) HV))))
        refine wpQuiet_nil ?_
        intro w1 hg
        clear hor
        go_wp2_with fail
        refine wp_region_grows (by kernel_rfl) (by kernel_rfl) ?_
        repeat (go_big_quiet_step ((intro hb; go_at_call 19; exact Calls.grows_of hb (refLength_any _ _ (by omega) (by omega)))))
        refine wpQuiet_nil ?_
        intro w2 hg2
        go_wp2_with fail
        all_goals
          go_ret3
          go_light
          exact ⟨resL_is (Eq.trans (len_test (by first | exact .inl ⟨rfl, rfl⟩ | exact .inr (.inl ⟨rfl, rfl⟩) | exact .inr (.inr ⟨rfl, rfl⟩)) (by omega) h48 (by omega) HV (by omega) _ ‹_›) rfl) (by omega) (by omega), Grows.trans hg hg2⟩

set_option maxRecDepth 100000 in
set_option maxHeartbeats 1000000 in
theorem readLength_4 (c : UInt8) (r : List UInt8) (w : World) (hm : r.length ≤ 9223372036854774000) (h1 : 192 ≤ c.toNat)  :
    Calls Try.prog 22 #[.string ⟨(c :: r).toArray⟩] w fun e w' => e = .returned (resL (rdLenK c r 4 1048576)) ∧ Below w.heap.size w w' := by
  have hq : (c.toNat : Int) / 64 = 3 := by have hc := c.toNat_lt; omega
  rcases and48_cases (c.toNat : Int) with h48 | h48
  · go_enter Try.func22, Try.ntmps22
    go_wp2_with fail
    go_ret3
    go_light
    exact ⟨resL_is (rdLenK_48 h48) (by omega) (by omega), Below.refl _ _⟩
  · by_cases hr : (r.length : Int) + 1 < 4
    · go_enter Try.func22, Try.ntmps22
      go_wp2_with fail
      go_ret3
      go_light
      exact ⟨resL_is (rdLenK_short h48 hr) (by omega) (by omega), Below.refl _ _⟩
    · obtain ⟨v, hv⟩ : ∃ v : Int, v = (num (r.take 3) : Nat) := ⟨_, rfl⟩
      have hlt := num_take_lt r 3 (by omega)
      have hv0 : 0 ≤ v := by omega
      have hv1 : v < 16777216 := by omega
      have HV := Lib.hid hv
      clear hlt hv
      have hor : bits .or .i64 ((c.toNat : Int) % 16) (v * 16) = (c.toNat : Int) % 16 + v * 16 := i64_or4' _ _ (by omega) (by omega) (by omega) (by omega) (by omega)
      by_cases hk : (c.toNat : Int) % 16 + v * 16 < 4
      · go_enter Try.func22, Try.ntmps22
        go_wp2_with fail
        refine wp_region_grows (by kernel_rfl) (by kernel_rfl) ?_
        repeat (go_big_quiet_step ((intro hb; go_at_call 34; exact Calls.grows_of_same hb (rnumber_w _ v _ (by simp; omega) HV))))
        refine wpQuiet_nil ?_
        intro w1 hg
        clear hor
        go_wp2_with fail
        refine wp_region_grows (by kernel_rfl) (by kernel_rfl) ?_
        repeat (go_big_quiet_step ((intro hb; go_at_call 19; exact Calls.grows_of hb (refLength_any _ _ (by omega) (by omega)))))
        refine wpQuiet_nil ?_
        intro w2 hg2
        go_wp2_with fail
        go_ret3
        go_light
        exact ⟨resL_is (rdLenK_low h48 (by omega) HV (by omega)) (by omega) (by omega), Grows.trans hg hg2⟩
      · have hd : decide ((c.toNat : Int) % 16 + v * 16 < 4) = false := by simpa using hk
        go_enter Try.func22, Try.ntmps22
        go_wp2_with fail
        refine wp_region_grows (by kernel_rfl) (by kernel_rfl) ?_
        repeat (go_big_quiet_step ((intro hb; go_at_call 34; exact Calls.grows_of_same hb (rnumber_w _ v _ (by simp; omega) HV))))
        refine wpQuiet_nil ?_
        intro w1 hg
        clear hor
        go_wp2_with fail
        refine wp_region_grows (by kernel_rfl) (by kernel_rfl) ?_
        repeat (go_big_quiet_step ((intro hb; go_at_call 19; exact Calls.grows_of hb (refLength_any _ _ (by omega) (by omega)))))
        refine wpQuiet_nil ?_
        intro w2 hg2
        go_wp2_with fail
        all_goals
          go_ret3
          go_light
          exact ⟨resL_is (Eq.trans (len_test (by first | exact .inl ⟨rfl, rfl⟩ | exact .inr (.inl ⟨rfl, rfl⟩) | exact .inr (.inr ⟨rfl, rfl⟩)) (by omega) h48 (by omega) HV (by omega) _ ‹_›) rfl) (by omega) (by omega), Grows.trans hg hg2⟩

set_option maxHeartbeats 1000000 in
theorem length_any (s : List UInt8) (w : World) (hm : s.length ≤ 9223372036854774000) :
    Calls Try.prog 21 #[.string ⟨s.toArray⟩] w fun e w' => e = .returned (resL (rdLen s)) ∧ Below w.heap.size w w' := by
  match s, hm with
  | [], hm =>
    go_enter Try.func21, Try.ntmps21
    go_wp2_with fail
    go_ret3
    exact ⟨rfl, Below.refl _ _⟩
  | c :: r, hm =>
    simp only [List.length_cons] at hm
    by_cases hc : c.toNat < 64
    · have hq : (c.toNat : Int) / 64 = 0 := by omega
      by_cases hz : c = 0
      · subst hz
        go_enter Try.func21, Try.ntmps21
        go_wp2_with fail
        go_ret3
        exact ⟨rfl, Below.refl _ _⟩
      have hz : ¬ (c.toNat : Int) < 1 := by
        intro h; apply hz; apply UInt8.toNat_inj.1; simpa using (by omega : c.toNat = 0)
      have hz' : ((c.toNat : Int) == 0) = false := by simp only [beq_eq_false_iff_ne, ne_eq]; omega
      go_enter Try.func21, Try.ntmps21
      go_wp2_with fail
      go_ret3
      go_light
      exact ⟨resL_is (rdLen_one (by omega) hc) (by omega) (by omega), Below.refl _ _⟩
    · by_cases h2 : c.toNat < 128
      · rw [rdLen_k2 (by omega) h2]; exact length_2 c r w (by omega) (by omega) h2
      · by_cases h3 : c.toNat < 192
        · rw [rdLen_k3 (by omega) h3]; exact length_3 c r w (by omega) (by omega) h3
        · rw [rdLen_k4 (by omega)]; exact length_4 c r w (by omega) (by omega)

set_option maxHeartbeats 1000000 in
theorem readLength_any (s : List UInt8) (w : World) (hm : s.length ≤ 9223372036854774000) :
    Calls Try.prog 22 #[.string ⟨s.toArray⟩] w fun e w' => e = .returned (resL (rdLen s)) ∧ Below w.heap.size w w' := by
  match s, hm with
  | [], hm =>
    go_enter Try.func22, Try.ntmps22
    go_wp2_with fail
    go_ret3
    exact ⟨rfl, Below.refl _ _⟩
  | c :: r, hm =>
    simp only [List.length_cons] at hm
    by_cases hc : c.toNat < 64
    · have hq : (c.toNat : Int) / 64 = 0 := by omega
      by_cases hz : c = 0
      · subst hz
        go_enter Try.func22, Try.ntmps22
        go_wp2_with fail
        go_ret3
        exact ⟨rfl, Below.refl _ _⟩
      have hz : ¬ (c.toNat : Int) < 1 := by
        intro h; apply hz; apply UInt8.toNat_inj.1; simpa using (by omega : c.toNat = 0)
      have hz' : ((c.toNat : Int) == 0) = false := by simp only [beq_eq_false_iff_ne, ne_eq]; omega
      have hd : decide ((c.toNat : Int) < 1) = false := by simpa using hz
      have hmod : (c.toNat : Int) % 64 = c.toNat := by omega
      have hb0 : (c.toNat : Int) ≤ 63 := by omega
      go_enter Try.func22, Try.ntmps22
      go_wp2_with fail
      refine wp_region_grows (by kernel_rfl) (by kernel_rfl) ?_
      repeat (go_big_quiet_step ((intro hb; go_at_call 19; exact Calls.grows_of hb (refLength_any _ _ (by omega) (by omega)))))
      refine wpQuiet_nil ?_
      intro w2 hg2
      rw [encLen_one (c := c) (by omega) hc]
      simp only [beq_self_eq_true, Bool.not_true]
      go_wp2_with fail
      go_ret3
      go_light
      exact ⟨resL_is (rdLen_one (by omega) hc) (by omega) (by omega), hg2⟩
    · by_cases h2 : c.toNat < 128
      · rw [rdLen_k2 (by omega) h2]; exact readLength_2 c r w (by omega) (by omega) h2
      · by_cases h3 : c.toNat < 192
        · rw [rdLen_k3 (by omega) h3]; exact readLength_3 c r w (by omega) (by omega) h3
        · rw [rdLen_k4 (by omega)]; exact readLength_4 c r w (by omega) (by omega)

end Go.Proofs.Ytihfhkpglfobfaa
