/- Int, AppendInt and their references: the walks, each function once, with what each computes as a plain function of bytes. -/
import Derived.Test.YtihfhkpglfobfaaNum
import Derived.Deep.Light
import Derived.Test.YtihfhkpglfobfaaKit
namespace Go.Proofs.Ytihfhkpglfobfaa
open Go.RowKit

theorem get_mk (l : List UInt8) (i : Nat) (h : i < (ByteArray.mk l.toArray).size) : (ByteArray.mk l.toArray)[i] = l[i]'(by have := h; simp only [ByteArray.size_mk', List.size_toArray] at this; exact this) := rfl
theorem cut_mk (l : List UInt8) (a b : Nat) : (ByteArray.mk l.toArray).extract a b = ⟨((l.drop a).take (b - a)).toArray⟩ := by
  apply ByteArray.ext
  rw [ByteArray.data_extract]
  simp
attribute [local go_sem] conv1 conv2 ByteArray.mk_append_mk get_mk cut_mk

/-- The largest number of 64 bits. -/
def top64 : Nat := 18446744073709551615

/-- The encoding of an integer. -/
def encInt (v : Nat) : List UInt8 :=
  if v ≤ 1 then [UInt8.ofNat v]
  else if v = top64 then [255]
  else if v < 256 then 10 :: little v 1
  else if v < 65536 then 11 :: little v 2
  else if v < 4294967296 then 12 :: little v 4
  else 14 :: little v 8

def rdNum (r : List UInt8) (n least : Nat) : Nat × Nat × Nat :=
  if r.length < n then (0, 0, 4) else if num (r.take n) < least ∨ num (r.take n) = top64 then (0, 0, 3) else (num (r.take n), 1 + n, 0)

/-- What Int returns: the number, the length of its encoding, the error. -/
def rdInt : List UInt8 → Nat × Nat × Nat
  | [] => (0, 0, 4)
  | c :: r =>
    if c.toNat ≤ 1 then (c.toNat, 1, 0)
    else if c.toNat = 255 then (top64, 1, 0)
    else if c.toNat = 10 then rdNum r 1 2
    else if c.toNat = 11 then rdNum r 2 256
    else if c.toNat = 12 then rdNum r 4 65536
    else if c.toNat = 14 then rdNum r 8 4294967296
    else (0, 0, 3)

def res3 (x : Nat × Nat × Nat) : Value := .tuple #[.int .u64 x.1, .int .i64 x.2.1, .int .i64 x.2.2]

theorem res3_is {x : Nat × Nat × Nat} {a b c : Int} (h : x = (a.toNat, b.toNat, c.toNat)) (ha : 0 ≤ a) (hb : 0 ≤ b) (hc : 0 ≤ c) : Ending.returned (.tuple #[.int .u64 a, .int .i64 b, .int .i64 c]) = .returned (res3 x) := by
  subst h
  simp only [res3, Int.toNat_of_nonneg ha, Int.toNat_of_nonneg hb, Int.toNat_of_nonneg hc]

set_option maxRecDepth 100000 in
/-- 'number', its result under a name of its own (a cast beside a great numeral stops the walk). -/
theorem number_v (s : List UInt8) (w : World) (hs : s.length ≤ 8) :
    Calls Try.prog 32 #[.string ⟨s.toArray⟩] w fun e w' => ∃ v : Int, Hid (v = (num s : Nat)) ∧ 0 ≤ v ∧ e = .returned (.int .u64 v) ∧ w = w' :=
  (number_any s w hs).mono fun _ _ ⟨he, hw⟩ => ⟨_, Lib.hid rfl, Int.natCast_nonneg _, he, hw⟩
theorem rnumber_v (s : List UInt8) (w : World) (hs : s.length ≤ 8) :
    Calls Try.prog 34 #[.string ⟨s.toArray⟩] w fun e w' => ∃ v : Int, Hid (v = (num s : Nat)) ∧ 0 ≤ v ∧ e = .returned (.int .u64 v) ∧ w = w' :=
  (rnumber_any s w hs).mono fun _ _ ⟨he, hw⟩ => ⟨_, Lib.hid rfl, Int.natCast_nonneg _, he, hw⟩

theorem byte_form (c : UInt8) : c = 0 ∨ c = 1 ∨ c = 255 ∨ c = 10 ∨ c = 11 ∨ c = 12 ∨ c = 14 ∨
    (((c.toNat : Int) == 0) = false ∧ ((c.toNat : Int) == 1) = false ∧ ((c.toNat : Int) == 255) = false ∧ ((c.toNat : Int) == 10) = false ∧ ((c.toNat : Int) == 11) = false ∧ ((c.toNat : Int) == 12) = false ∧ ((c.toNat : Int) == 14) = false) := by
  simp only [← UInt8.toNat_inj, beq_eq_false_iff_ne, ne_eq, UInt8.reduceToNat]
  omega

theorem rdInt_other (c : UInt8) (r : List UInt8) (h : ((c.toNat : Int) == 0) = false ∧ ((c.toNat : Int) == 1) = false ∧ ((c.toNat : Int) == 255) = false ∧ ((c.toNat : Int) == 10) = false ∧ ((c.toNat : Int) == 11) = false ∧ ((c.toNat : Int) == 12) = false ∧ ((c.toNat : Int) == 14) = false) : rdInt (c :: r) = (0, 0, 3) := by
  simp only [beq_eq_false_iff_ne, ne_eq] at h
  rw [rdInt, if_neg (by omega), if_neg (by omega), if_neg (by omega), if_neg (by omega), if_neg (by omega), if_neg (by omega)]

theorem rdNum_short {r : List UInt8} {n least : Nat} (h : (r.length : Int) + 1 ≤ n) : rdNum r n least = (0, 0, 4) := by
  rw [rdNum, if_pos (by omega)]
theorem rdNum_bad {r : List UInt8} {n least : Nat} {v : Int} (h : ¬ (r.length : Int) + 1 ≤ n) (HV : Hid (v = (num (r.take n) : Nat))) (hb : v < least ∨ v = 18446744073709551615) : rdNum r n least = (0, 0, 3) := by
  have hV := HV.out
  have ht : top64 = 18446744073709551615 := rfl
  rw [rdNum, if_neg (by omega), if_pos (by omega)]
theorem rdNum_good {r : List UInt8} {n least : Nat} {v : Int} (h : ¬ (r.length : Int) + 1 ≤ n) (HV : Hid (v = (num (r.take n) : Nat))) (hb : ¬ (v < least ∨ v = 18446744073709551615)) : rdNum r n least = (v.toNat, 1 + n, 0) := by
  have hV := HV.out
  have ht : top64 = 18446744073709551615 := rfl
  rw [rdNum, if_neg (by omega), if_neg (by omega)]
  simp only [Prod.mk.injEq, and_true]
  omega

set_option maxHeartbeats 1000000 in
theorem int_any (s : List UInt8) (w : World) (hm : s.length ≤ 9223372036854775000) :
    Calls Try.prog 11 #[.string ⟨s.toArray⟩] w fun e w' => e = .returned (res3 (rdInt s)) ∧ w = w' := by
  cases s with
  | nil =>
    go_enter Try.func11, Try.ntmps11
    go_wp2_with fail
    go_ret3
    exact ⟨rfl, rfl⟩
  | cons c r =>
    simp only [List.length_cons] at hm
    rcases byte_form c with rfl | rfl | rfl | rfl | rfl | rfl | rfl | hother
    case inr.inr.inr.inr.inr.inr.inr =>
      have HO := Lib.hid (rdInt_other c r hother)
      obtain ⟨h1, h2, h3, h4, h5, h6, h7⟩ := hother
      go_enter Try.func11, Try.ntmps11
      go_wp2_with fail
      go_ret3
      exact ⟨by rw [HO.out]; rfl, rfl⟩
    case inl | inr.inl | inr.inr.inl =>
      go_enter Try.func11, Try.ntmps11
      go_wp2_with fail
      go_ret3
      exact ⟨rfl, rfl⟩
    all_goals
      go_enter Try.func11, Try.ntmps11
      go_wp2_with (go_at_call 32; refine (number_v _ _ (by simp; omega)).mono ?_; rintro e w' ⟨v, HV, hv0, rfl, rfl⟩)
      all_goals
        go_ret3
        go_light
        refine ⟨res3_is (Eq.trans (b := rdNum r _ _) rfl ?_) ?_ ?_ ?_, rfl⟩
        all_goals
          (try simp only [beq_iff_eq, beq_eq_false_iff_ne, ne_eq] at *)
          first
            | omega
            | exact rdNum_short (by omega)
            | exact rdNum_bad (by omega) HV (by omega)
            | exact rdNum_good (by omega) HV (by omega)

/-- 'appendNumber' at numbers that stand as they stand in the walk. -/
theorem appendNumber_i (b : List UInt8) (x n : Int) (w : World) (hx : 0 ≤ x) (hn0 : 0 ≤ n) (hn : n ≤ 8) (hbl : b.length ≤ 9223372036854775000) :
    Calls Try.prog 31 #[.string ⟨b.toArray⟩, .int .u64 x, .int .i64 n] w fun e w' => e = .returned (.string ⟨(b ++ little x.toNat n.toNat).toArray⟩) ∧ Below w.heap.size w w' := by
  obtain ⟨v, rfl⟩ := Int.eq_ofNat_of_zero_le hx
  obtain ⟨m, rfl⟩ := Int.eq_ofNat_of_zero_le hn0
  exact appendNumber_any b v m w (by omega) hbl
theorem little_i (x n : Int) (w : World) (hx : 0 ≤ x) (hn0 : 0 ≤ n) (hn : n ≤ 8) :
    Calls Try.prog 33 #[.int .u64 x, .int .i64 n] w fun e w' => ∃ l : List UInt8, Hid (l = little x.toNat n.toNat) ∧ l.length ≤ 8 ∧ e = .returned (.string ⟨l.toArray⟩) ∧ Below w.heap.size w w' := by
  obtain ⟨v, rfl⟩ := Int.eq_ofNat_of_zero_le hx
  obtain ⟨m, rfl⟩ := Int.eq_ofNat_of_zero_le hn0
  exact (little_any v m w (by omega)).mono fun _ _ ⟨he, hw⟩ => ⟨_, Lib.hid rfl, by rw [little_length]; omega, he, hw⟩

theorem enc_of {x : Int} {l : List UInt8} (h : l = encInt x.toNat) (b : List UInt8) : Ending.returned (.string ⟨(b ++ l).toArray⟩) = .returned (.string ⟨(b ++ encInt x.toNat).toArray⟩) := by rw [h]
theorem enc_0 {x : Int} (h : x ≤ 1) : [UInt8.ofNat x.toNat] = encInt x.toNat := by
  rw [encInt, if_pos (by omega)]
theorem enc_zero {x : Int} (h : x = 0) : [0] = encInt x.toNat := by subst h; rfl
theorem enc_one {x : Int} (h : x = 1) : [1] = encInt x.toNat := by subst h; rfl
theorem enc_top {x : Int} (h : x = 18446744073709551615) : [255] = encInt x.toNat := by
  have ht : top64 = 18446744073709551615 := rfl
  rw [encInt, if_neg (by omega), if_pos (by omega)]
theorem enc_1 {x : Int} (h1 : 1 < x) (h2 : x < 256) : 10 :: little x.toNat 1 = encInt x.toNat := by
  have ht : top64 = 18446744073709551615 := rfl
  rw [encInt, if_neg (by omega), if_neg (by omega), if_pos (by omega)]
theorem enc_2 {x : Int} (h1 : 256 ≤ x) (h2 : x < 65536) : 11 :: little x.toNat 2 = encInt x.toNat := by
  have ht : top64 = 18446744073709551615 := rfl
  rw [encInt, if_neg (by omega), if_neg (by omega), if_neg (by omega), if_pos (by omega)]
theorem enc_4 {x : Int} (h1 : 65536 ≤ x) (h2 : x < 4294967296) : 12 :: little x.toNat 4 = encInt x.toNat := by
  have ht : top64 = 18446744073709551615 := rfl
  rw [encInt, if_neg (by omega), if_neg (by omega), if_neg (by omega), if_neg (by omega), if_pos (by omega)]
theorem enc_8 {x : Int} (h1 : 4294967296 ≤ x) (h2 : ¬ x = 18446744073709551615) : 14 :: little x.toNat 8 = encInt x.toNat := by
  have ht : top64 = 18446744073709551615 := rfl
  rw [encInt, if_neg (by omega), if_neg (by omega), if_neg (by omega), if_neg (by omega), if_neg (by omega)]

set_option maxHeartbeats 1000000 in
theorem appendInt_any (b : List UInt8) (x : Int) (w : World) (hx : 0 ≤ x) (hbl : b.length ≤ 9223372036854770000) :
    Calls Try.prog 10 #[.string ⟨b.toArray⟩, .int .u64 x] w fun e w' => e = .returned (.string ⟨(b ++ encInt x.toNat).toArray⟩) ∧ Below w.heap.size w w' := by
  go_enter Try.func10, Try.ntmps10
  go_wp2_with (go_at_call 31; refine (appendNumber_i _ _ _ _ (by omega) (by omega) (by omega) (by simp; omega)).mono ?_; rintro e w' ⟨rfl, hb⟩)
  all_goals
    go_ret
    go_light
    (try simp only [beq_iff_eq, beq_eq_false_iff_ne, ne_eq] at *)
  · exact ⟨enc_of (enc_0 (by omega)) b, (Below.refl _ _).alloc (Nat.le_refl _) _⟩
  · exact ⟨enc_of (enc_top (by omega)) b, Below.refl _ _⟩
  · exact ⟨enc_of (enc_1 (by omega) (by omega)) b, hb⟩
  · exact ⟨enc_of (enc_2 (by omega) (by omega)) b, hb⟩
  · exact ⟨enc_of (enc_4 (by omega) (by omega)) b, hb⟩
  · exact ⟨enc_of (enc_8 (by omega) (by omega)) b, hb⟩

set_option maxHeartbeats 1000000 in
theorem refInt_any (x : Int) (w : World) (hx : 0 ≤ x) :
    Calls Try.prog 12 #[.int .u64 x] w fun e w' => e = .returned (.string ⟨(encInt x.toNat).toArray⟩) ∧ Below w.heap.size w w' := by
  go_enter Try.func12, Try.ntmps12
  go_wp2_with (go_at_call 33; refine (little_i _ _ _ (by omega) (by omega) (by omega)).mono ?_; rintro e w' ⟨l, HL, hl, rfl, hb⟩)
  all_goals
    go_ret
    go_light
    (try simp only [beq_iff_eq, beq_eq_false_iff_ne, ne_eq] at *)
    (try have e := HL.out; subst e)
  · exact ⟨enc_of (enc_zero (by omega)) [], Below.refl _ _⟩
  · exact ⟨enc_of (enc_one (by omega)) [], Below.refl _ _⟩
  · exact ⟨enc_of (enc_top (by omega)) [], Below.refl _ _⟩
  · exact ⟨enc_of (enc_1 (by omega) (by omega)) [], hb⟩
  · exact ⟨enc_of (enc_2 (by omega) (by omega)) [], hb⟩
  · exact ⟨enc_of (enc_4 (by omega) (by omega)) [], hb⟩
  · exact ⟨enc_of (enc_8 (by omega) (by omega)) [], hb⟩

theorem encInt_len (v : Nat) : (encInt v).length ≤ 9 := by
  unfold encInt
  repeat' split
  all_goals simp [little_length]
theorem refInt_v (x : Int) (w : World) (hx : 0 ≤ x) :
    Calls Try.prog 12 #[.int .u64 x] w fun e w' => ∃ l : List UInt8, Hid (l = encInt x.toNat) ∧ l.length ≤ 9 ∧ e = .returned (.string ⟨l.toArray⟩) ∧ Below w.heap.size w w' :=
  (refInt_any x w hx).mono fun _ _ ⟨he, hw⟩ => ⟨_, Lib.hid rfl, encInt_len _, he, hw⟩

theorem i8_255 : IntKind.i8.wrap 255 = -1 := by decide
theorem u64_m1 : IntKind.u64.wrap (-1) = 18446744073709551615 := by decide
attribute [local go_sem] i8_255 u64_m1

/-- The four forms: the byte ahead, how many bytes follow, the least number. -/
def Form (c : UInt8) (n least : Nat) : Prop := (c = 10 ∧ n = 1 ∧ least = 2) ∨ (c = 11 ∧ n = 2 ∧ least = 256) ∨ (c = 12 ∧ n = 4 ∧ least = 65536) ∨ (c = 14 ∧ n = 8 ∧ least = 4294967296)
theorem Form.one : Form 10 1 2 := .inl ⟨rfl, rfl, rfl⟩
theorem Form.two : Form 11 2 256 := .inr (.inl ⟨rfl, rfl, rfl⟩)
theorem Form.four : Form 12 4 65536 := .inr (.inr (.inl ⟨rfl, rfl, rfl⟩))
theorem Form.eight : Form 14 8 4294967296 := .inr (.inr (.inr ⟨rfl, rfl, rfl⟩))

theorem enc_num_good {c : UInt8} {n least : Nat} (hf : Form c n least) (l : List UInt8) (hl : l.length = n) (h : ¬ (num l < least ∨ num l = top64)) : encInt (num l) = c :: l := by
  have hlt := num_lt l
  have hb := little_num l
  rw [hl] at hlt hb
  have ht : top64 = 18446744073709551615 := rfl
  unfold encInt
  rcases hf with ⟨rfl, rfl, rfl⟩ | ⟨rfl, rfl, rfl⟩ | ⟨rfl, rfl, rfl⟩ | ⟨rfl, rfl, rfl⟩
  · rw [if_neg (by omega), if_neg (by omega), if_pos (by omega), hb]
  · rw [if_neg (by omega), if_neg (by omega), if_neg (by omega), if_pos (by omega), hb]
  · rw [if_neg (by omega), if_neg (by omega), if_neg (by omega), if_neg (by omega), if_pos (by omega), hb]
  · rw [if_neg (by omega), if_neg (by omega), if_neg (by omega), if_neg (by omega), if_neg (by omega), hb]

theorem enc_num_bad {c : UInt8} {n least : Nat} (hf : Form c n least) (l : List UInt8) (h : num l < least ∨ num l = top64) : encInt (num l) ≠ c :: l := by
  have ht : top64 = 18446744073709551615 := rfl
  intro he
  have hd : (encInt (num l)).head? = some c := by rw [he]; rfl
  have hk : (encInt (num l)).length = l.length + 1 := by rw [he]; rfl
  clear he
  revert hd hk
  unfold encInt
  rcases hf with ⟨rfl, rfl, rfl⟩ | ⟨rfl, rfl, rfl⟩ | ⟨rfl, rfl, rfl⟩ | ⟨rfl, rfl, rfl⟩ <;> (repeat' split) <;> intro hd hk <;> first
    | omega
    | (simp at hd; done)
    | (simp at hk; done)
    | (rename_i h1; simp at hk; subst hk; simp [num] at h1; done)
    | (simp at hd; exfalso; simp only [← UInt8.toNat_inj, UInt8.toNat_ofNat', UInt8.reduceToNat] at hd; omega)

/-- What 'Int(v) != s[:1+n]' gives. -/
theorem enc_test {c : UInt8} {n least : Nat} (hf : Form c n least) (r : List UInt8) (v : Int) (HV : Hid (v = (num (r.take n) : Nat))) (hr : ¬ (r.length : Int) + 1 ≤ n) (b : Bool) (hb : (!encInt v.toNat == c :: r.take n) = b) :
    rdNum r n least = if b then (0, 0, 3) else (v.toNat, 1 + n, 0) := by
  have hV := HV.out
  have ht : top64 = 18446744073709551615 := rfl
  rw [hV, Int.toNat_natCast] at hb
  rw [rdNum, if_neg (by omega)]
  by_cases h : num (r.take n) < least ∨ num (r.take n) = top64
  · have := enc_num_bad hf (r.take n) h
    have hb' : b = true := by rw [← hb]; simpa using this
    rw [if_pos h, if_pos hb']
  · have := enc_num_good hf (r.take n) (by rw [List.length_take]; omega) h
    have hb' : b = false := by rw [← hb]; simpa using this
    rw [if_neg h, if_neg (by simp [hb']), hV, Int.toNat_natCast]

set_option maxHeartbeats 1000000 in
theorem readInt_any (s : List UInt8) (w : World) (hm : s.length ≤ 9223372036854775000) :
    Calls Try.prog 14 #[.string ⟨s.toArray⟩] w fun e w' => e = .returned (res3 (rdInt s)) ∧ Below w.heap.size w w' := by
  cases s with
  | nil =>
    go_enter Try.func14, Try.ntmps14
    go_wp2_with fail
    go_ret3
    exact ⟨rfl, Below.refl _ _⟩
  | cons c r =>
    simp only [List.length_cons] at hm
    rcases byte_form c with rfl | rfl | rfl | rfl | rfl | rfl | rfl | hother
    case inr.inr.inr.inr.inr.inr.inr =>
      have HO := Lib.hid (rdInt_other c r hother)
      obtain ⟨h1, h2, h3, h4, h5, h6, h7⟩ := hother
      go_enter Try.func14, Try.ntmps14
      go_wp2_with fail
      go_ret3
      exact ⟨by rw [HO.out]; rfl, Below.refl _ _⟩
    case inl | inr.inl | inr.inr.inl =>
      go_enter Try.func14, Try.ntmps14
      go_wp2_with fail
      go_ret3
      exact ⟨rfl, Below.refl _ _⟩
    all_goals
      have hel : ∀ x, (encInt x).length ≤ 9 := encInt_len
      go_enter Try.func14, Try.ntmps14
      go_wp2_with (go_at_call 34; refine (rnumber_v _ _ (by simp; omega)).mono ?_; rintro e w' ⟨v, HV, hv0, rfl, rfl⟩)
      · go_ret3
        go_light
        exact ⟨res3_is (Eq.trans (b := rdNum r _ _) rfl (rdNum_short (by omega))) (by omega) (by omega) (by omega), Below.refl _ _⟩
      · refine wp_region_grows (by kernel_rfl) (by kernel_rfl) ?_
        repeat (go_big_quiet_step ((intro hb; go_at_call 12; exact Calls.grows_of hb (refInt_any _ _ (by omega)))))
        refine wpQuiet_nil ?_
        intro w1 hg
        clear hel
        go_wp2
        all_goals
          go_ret3
          go_light
          exact ⟨res3_is (Eq.trans (b := rdNum r _ _) rfl (Eq.trans (enc_test (by first | exact Form.one | exact Form.two | exact Form.four | exact Form.eight) r v HV (by omega) _ ‹_›) rfl)) (by omega) (by omega) (by omega), hg⟩
end Go.Proofs.Ytihfhkpglfobfaa
