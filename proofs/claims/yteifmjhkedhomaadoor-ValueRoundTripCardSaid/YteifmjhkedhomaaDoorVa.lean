/- The smallest functions of the layer 'value' and of its reference: the walks. -/
import Derived.Test.YteifmjhkedhomaaDoorBs
namespace Go.Proofs.YteifmjhkedhomaaDoor
open Go.RowKit
attribute [local go_sem] ByteArray.mk_append_mk bs_get bs_cut bs_end

/-- A value's value. -/
abbrev valV (k n : Int) (s : List UInt8) (o : Int) : Value := .agg #[.int .i64 k, .int .u64 n, .string ⟨s.toArray⟩, .int .i64 o]
theorem boolR {a b : Bool} (h : a = b) : Ending.returned (.bool a) = .returned (.bool b) := by rw [h]

theorem number_any (n : Int) (w : World) : Calls Tryd.prog 11 #[.int .u64 n] w fun e w' => e = .returned (valV 1 n [] 0) ∧ Below w.heap.size w w' := by
  go_enter Tryd.func11, Tryd.ntmps11
  go_wp2_with fail
  exact bodyPost_ret (v := valV 1 n [] 0) (by simp [results, Tryd.results11, go_sem]) rfl ⟨rfl, (Below.refl _ _).alloc (Nat.le_refl _) _⟩

theorem ret_bool (tmps : Array Value) (w : World) (b : Nat) (c0 c1 c2 c3 : Value) (h2 : tmps.getD 2 undef = .pointer (some ⟨b, 0, none⟩)) (hb : w.heap[b]? = some (.cells #[c0, c1, c2, c3] 24 (0, 0))) :
    (results Tryd.f33 tmps).run Tryd.prog w = .ok (.agg #[c0, c1, c2, c3]) w := by
  obtain ⟨e0, e1, e2, e3⟩ := cells4 hb
  have h2' : tmps[2]?.getD undef = .pointer (some ⟨b, 0, none⟩) := by rw [← h2]; simp
  simp [results]
  go_simp

theorem bool_true (w : World) : Calls Tryd.prog 33 #[.bool true] w fun e w' => e = .returned (valV 1 18446744073709551615 [] 0) ∧ Below w.heap.size w w' := by
  go_enter Tryd.func33, Tryd.ntmps33
  go_wp2_with fail
  ((with_reducible refine (number_any 18446744073709551615 _).mono ?_))
  rintro e w1 ⟨rfl, hb⟩
  obtain ⟨hb1, hn⟩ := bel_alloc hb
  clear hb
  have HB := Lib.hid hb1
  have HN := Lib.hid hn
  obtain ⟨c0, c1, c2, c3⟩ := cells4 hn
  have f0 := free3 hn 0
  have f1 := free3 hn 1
  have f2 := free3 hn 2
  have f3 := free3 hn 3
  clear hn hb1
  go_wp2_with fail
  exact bodyPost_ret (ret_bool _ _ _ _ _ _ _ rfl (put4 HN.out _ _ _ _)) rfl ⟨rfl, bel4 HB.out (Nat.le_refl _) _ _ _ _⟩

theorem bool_false (w : World) : Calls Tryd.prog 33 #[.bool false] w fun e w' => e = .returned (valV 1 0 [] 0) ∧ Below w.heap.size w w' := by
  go_enter Tryd.func33, Tryd.ntmps33
  go_wp2_with fail
  ((with_reducible refine (number_any 0 _).mono ?_))
  rintro e w1 ⟨rfl, hb⟩
  obtain ⟨hb1, hn⟩ := bel_alloc hb
  clear hb
  have HB := Lib.hid hb1
  have HN := Lib.hid hn
  obtain ⟨c0, c1, c2, c3⟩ := cells4 hn
  have f0 := free3 hn 0
  have f1 := free3 hn 1
  have f2 := free3 hn 2
  have f3 := free3 hn 3
  clear hn hb1
  go_wp2_with fail
  exact bodyPost_ret (ret_bool _ _ _ _ _ _ _ rfl (put4 HN.out _ _ _ _)) rfl ⟨rfl, bel4 HB.out (Nat.le_refl _) _ _ _ _⟩

theorem truth_true (w : World) : Calls Tryd.prog 19 #[.bool true] w fun e w' => e = .returned (valV 1 18446744073709551615 [] 0) ∧ Below w.heap.size w w' := by
  go_enter Tryd.func19, Tryd.ntmps19
  go_wp2_with fail
  exact bodyPost_ret (v := valV 1 18446744073709551615 [] 0) (by simp [results, Tryd.results19, go_sem]) rfl ⟨rfl, ((Below.refl _ _).alloc (Nat.le_refl _) _).alloc (by simp) _⟩

theorem truth_false (w : World) : Calls Tryd.prog 19 #[.bool false] w fun e w' => e = .returned (valV 1 0 [] 0) ∧ Below w.heap.size w w' := by
  go_enter Tryd.func19, Tryd.ntmps19
  go_wp2_with fail
  exact bodyPost_ret (v := valV 1 0 [] 0) (by simp [results, Tryd.results19, go_sem]) rfl ⟨rfl, ((Below.refl _ _).alloc (Nat.le_refl _) _).alloc (by simp) _⟩

/-- Is the value valid. -/
def validV (k : Int) (s : List UInt8) : Bool := decide (0 ≤ k ∧ k ≤ 6 ∧ ((k ≠ 2 ∧ k ≠ 3) ∨ s.length ≤ 255))

set_option maxHeartbeats 1000000 in
theorem valid_any (k n o : Int) (s : List UInt8) (w : World) (hs : s.length ≤ 9223372036854775000) : Calls Tryd.prog 17 #[valV k n s o] w fun e w' => e = .returned (.bool (validV k s)) ∧ Below w.heap.size w w' := by
  by_cases h : 0 ≤ k ∧ k ≤ 6
  · have h' : k = 0 ∨ k = 1 ∨ k = 4 ∨ k = 5 ∨ k = 6 ∨ k = 2 ∨ k = 3 := by omega
    clear h
    by_cases hl : s.length ≤ 255
    · have hl' : (s.length : Int) ≤ 255 := by omega
      have HR : Hid (validV k s = true) := Lib.hid (by unfold validV; rw [decide_eq_true_eq]; omega)
      rcases h' with rfl | rfl | rfl | rfl | rfl | rfl | rfl
      all_goals
        go_enter Tryd.func17, Tryd.ntmps17
        go_wp2_with fail
        go_ret
        exact ⟨by rw [HR.out]; rfl, (Below.refl _ _).alloc (Nat.le_refl _) _⟩
    · have hl' : ¬ (s.length : Int) ≤ 255 := by omega
      rcases h' with rfl | rfl | rfl | rfl | rfl | rfl | rfl
      all_goals first
        | (have HR : Hid (validV 2 s = false) := Lib.hid (by unfold validV; rw [decide_eq_false_iff_not]; omega)
           have HR3 : Hid (validV 3 s = false) := Lib.hid (by unfold validV; rw [decide_eq_false_iff_not]; omega)
           go_enter Tryd.func17, Tryd.ntmps17
           go_wp2_with fail
           go_ret
           first | exact ⟨by rw [HR.out]; rfl, (Below.refl _ _).alloc (Nat.le_refl _) _⟩ | exact ⟨by rw [HR3.out]; rfl, (Below.refl _ _).alloc (Nat.le_refl _) _⟩ | exact ⟨by simp [validV], (Below.refl _ _).alloc (Nat.le_refl _) _⟩)
  · have HR : Hid (validV k s = false) := Lib.hid (by unfold validV; rw [decide_eq_false_iff_not]; omega)
    have e0 : (k == 0) = false := by rw [beq_eq_false_iff_ne]; omega
    have e1 : (k == 1) = false := by rw [beq_eq_false_iff_ne]; omega
    have e2 : (k == 2) = false := by rw [beq_eq_false_iff_ne]; omega
    have e3 : (k == 3) = false := by rw [beq_eq_false_iff_ne]; omega
    have e4 : (k == 4) = false := by rw [beq_eq_false_iff_ne]; omega
    have e5 : (k == 5) = false := by rw [beq_eq_false_iff_ne]; omega
    have e6 : (k == 6) = false := by rw [beq_eq_false_iff_ne]; omega
    clear h
    go_enter Tryd.func17, Tryd.ntmps17
    go_wp2_with fail
    go_ret
    exact ⟨by rw [HR.out]; rfl, (Below.refl _ _).alloc (Nat.le_refl _) _⟩

set_option maxHeartbeats 1000000 in
theorem rvalid_any (k n o : Int) (s : List UInt8) (w : World) (hs : s.length ≤ 9223372036854775000) : Calls Tryd.prog 31 #[valV k n s o] w fun e w' => e = .returned (.bool (validV k s)) ∧ Below w.heap.size w w' := by
  by_cases h0 : 0 ≤ k
  · by_cases h6 : k ≤ 6
    · by_cases hl : s.length ≤ 255
      · have hl' : (s.length : Int) ≤ 255 := by omega
        have HR : Hid (validV k s = true) := Lib.hid (by unfold validV; rw [decide_eq_true_eq]; omega)
        have h' : k = 0 ∨ k = 1 ∨ k = 4 ∨ k = 5 ∨ k = 6 ∨ k = 2 ∨ k = 3 := by omega
        rcases h' with rfl | rfl | rfl | rfl | rfl | rfl | rfl
        all_goals
          go_enter Tryd.func31, Tryd.ntmps31
          go_wp2_with fail
          go_ret
          exact ⟨by rw [HR.out]; rfl, (Below.refl _ _).alloc (Nat.le_refl _) _⟩
      · have hl' : ¬ (s.length : Int) ≤ 255 := by omega
        have h' : k = 0 ∨ k = 1 ∨ k = 4 ∨ k = 5 ∨ k = 6 ∨ k = 2 ∨ k = 3 := by omega
        rcases h' with rfl | rfl | rfl | rfl | rfl | rfl | rfl
        all_goals
          have HR : Hid (validV 2 s = false) := Lib.hid (by unfold validV; rw [decide_eq_false_iff_not]; omega)
          have HR3 : Hid (validV 3 s = false) := Lib.hid (by unfold validV; rw [decide_eq_false_iff_not]; omega)
          go_enter Tryd.func31, Tryd.ntmps31
          go_wp2_with fail
          go_ret
          first | exact ⟨by rw [HR.out]; rfl, (Below.refl _ _).alloc (Nat.le_refl _) _⟩ | exact ⟨by rw [HR3.out]; rfl, (Below.refl _ _).alloc (Nat.le_refl _) _⟩ | exact ⟨by simp [validV], (Below.refl _ _).alloc (Nat.le_refl _) _⟩
    · have HR : Hid (validV k s = false) := Lib.hid (by unfold validV; rw [decide_eq_false_iff_not]; omega)
      go_enter Tryd.func31, Tryd.ntmps31
      go_wp2_with fail
      go_ret
      exact ⟨by rw [HR.out]; rfl, (Below.refl _ _).alloc (Nat.le_refl _) _⟩
  · have HR : Hid (validV k s = false) := Lib.hid (by unfold validV; rw [decide_eq_false_iff_not]; omega)
    go_enter Tryd.func31, Tryd.ntmps31
    go_wp2_with fail
    go_ret
    exact ⟨by rw [HR.out]; rfl, (Below.refl _ _).alloc (Nat.le_refl _) _⟩

theorem limited_ok (s : List UInt8) (w : World) (hs : s.length ≤ 255) : Calls Tryd.prog 39 #[.string ⟨s.toArray⟩] w fun e w' => e = .returned (.tuple #[.string ⟨s.toArray⟩, .int .i64 0]) ∧ w = w' := by
  have hl' : ¬ (255 : Int) < s.length := by omega
  go_enter Tryd.func39, Tryd.ntmps39
  go_wp2_with fail
  go_ret2
  exact ⟨rfl, rfl⟩
theorem limited_long (s : List UInt8) (w : World) (h : 255 < s.length) (hs : s.length ≤ 9223372036854775000) : Calls Tryd.prog 39 #[.string ⟨s.toArray⟩] w fun e w' => e = .returned (.tuple #[.string ⟨#[]⟩, .int .i64 11]) ∧ w = w' := by
  have hl' : (255 : Int) < s.length := by omega
  go_enter Tryd.func39, Tryd.ntmps39
  go_wp2_with fail
  go_ret2
  exact ⟨rfl, rfl⟩

theorem bounded_ok (s : List UInt8) (w : World) (hs : s.length ≤ 255) : Calls Tryd.prog 61 #[.string ⟨s.toArray⟩] w fun e w' => e = .returned (.tuple #[.string ⟨s.toArray⟩, .int .i64 0]) ∧ w = w' := by
  have hl' : ¬ (255 : Int) < s.length := by omega
  go_enter Tryd.func61, Tryd.ntmps61
  go_wp2_with fail
  go_ret2
  exact ⟨rfl, rfl⟩
theorem bounded_long (s : List UInt8) (w : World) (h : 255 < s.length) (hs : s.length ≤ 9223372036854775000) : Calls Tryd.prog 61 #[.string ⟨s.toArray⟩] w fun e w' => e = .returned (.tuple #[.string ⟨#[]⟩, .int .i64 11]) ∧ w = w' := by
  have hl' : (255 : Int) < s.length := by omega
  go_enter Tryd.func61, Tryd.ntmps61
  go_wp2_with fail
  go_ret2
  exact ⟨rfl, rfl⟩

/-- The value of a hexadecimal digit. -/
def hexV (c : Nat) : Option Nat := if 48 ≤ c ∧ c ≤ 57 then some (c - 48) else if 97 ≤ c ∧ c ≤ 102 then some (c - 87) else if 65 ≤ c ∧ c ≤ 70 then some (c - 55) else none
theorem hexV_lt {c d : Nat} (h : hexV c = some d) : d < 16 := by
  unfold hexV at h
  repeat' split at h
  all_goals first | (cases h; omega) | cases h

theorem hexV_dig {c : Nat} (h : 48 ≤ c ∧ c ≤ 57) : hexV c = some (c - 48) := by
  unfold hexV
  repeat' split
  all_goals first | rfl | omega

theorem hexV_low {c : Nat} (h : 97 ≤ c ∧ c ≤ 102) : hexV c = some (c - 87) := by
  unfold hexV
  repeat' split
  all_goals first | rfl | omega

theorem hexV_cap {c : Nat} (h : 65 ≤ c ∧ c ≤ 70) : hexV c = some (c - 55) := by
  unfold hexV
  repeat' split
  all_goals first | rfl | omega

theorem hexDigit_some (c : UInt8) (d : Nat) (h : hexV c.toNat = some d) (w : World) : Calls Tryd.prog 40 #[.int .u8 c.toNat] w fun e w' => e = .returned (.tuple #[.int .u64 d, .bool true]) ∧ w = w' := by
  have hc := c.toNat_lt
  generalize c.toNat = n at *
  by_cases h1 : 48 ≤ n ∧ n ≤ 57
  · rw [hexV_dig h1] at h
    cases h
    obtain ⟨ha, hb⟩ := h1
    go_enter Tryd.func40, Tryd.ntmps40
    go_wp2_with fail
    go_ret2
    exact ⟨by simp; omega, rfl⟩
  · by_cases h2 : 97 ≤ n ∧ n ≤ 102
    · rw [hexV_low h2] at h
      cases h
      obtain ⟨ha, hb⟩ := h2
      go_enter Tryd.func40, Tryd.ntmps40
      go_wp2_with fail
      go_ret2
      exact ⟨by simp; omega, rfl⟩
    · by_cases h3 : 65 ≤ n ∧ n ≤ 70
      · rw [hexV_cap h3] at h
        cases h
        obtain ⟨ha, hb⟩ := h3
        go_enter Tryd.func40, Tryd.ntmps40
        go_wp2_with fail
        go_ret2
        exact ⟨by simp; omega, rfl⟩
      · unfold hexV at h; rw [if_neg h1, if_neg h2, if_neg h3] at h; cases h

theorem hexDigit_none (c : UInt8) (h : hexV c.toNat = none) (w : World) : Calls Tryd.prog 40 #[.int .u8 c.toNat] w fun e w' => e = .returned (.tuple #[.int .u64 0, .bool false]) ∧ w = w' := by
  have hc := c.toNat_lt
  generalize c.toNat = n at *
  have h1 : ¬ (48 ≤ n ∧ n ≤ 57) := fun x => by rw [hexV_dig x] at h; cases h
  have h2 : ¬ (97 ≤ n ∧ n ≤ 102) := fun x => by rw [hexV_low x] at h; cases h
  have h3 : ¬ (65 ≤ n ∧ n ≤ 70) := fun x => by rw [hexV_cap x] at h; cases h
  clear h
  go_enter Tryd.func40, Tryd.ntmps40
  go_wp2_with fail
  all_goals (go_ret2; first | exact ⟨rfl, rfl⟩ | (exfalso; omega))

theorem rhex_some (c : UInt8) (d : Nat) (h : hexV c.toNat = some d) (w : World) : Calls Tryd.prog 55 #[.int .u8 c.toNat] w fun e w' => e = .returned (.int .i64 d) ∧ w = w' := by
  have hc := c.toNat_lt
  generalize c.toNat = n at *
  by_cases h1 : 48 ≤ n ∧ n ≤ 57
  · rw [hexV_dig h1] at h
    cases h
    obtain ⟨ha, hb⟩ := h1
    go_enter Tryd.func55, Tryd.ntmps55
    go_wp2_with fail
    go_ret
    exact ⟨by simp; omega, rfl⟩
  · by_cases h2 : 97 ≤ n ∧ n ≤ 102
    · rw [hexV_low h2] at h
      cases h
      obtain ⟨ha, hb⟩ := h2
      go_enter Tryd.func55, Tryd.ntmps55
      go_wp2_with fail
      go_ret
      exact ⟨by simp; omega, rfl⟩
    · by_cases h3 : 65 ≤ n ∧ n ≤ 70
      · rw [hexV_cap h3] at h
        cases h
        obtain ⟨ha, hb⟩ := h3
        go_enter Tryd.func55, Tryd.ntmps55
        go_wp2_with fail
        go_ret
        exact ⟨by simp; omega, rfl⟩
      · unfold hexV at h; rw [if_neg h1, if_neg h2, if_neg h3] at h; cases h
theorem rhex_none (c : UInt8) (h : hexV c.toNat = none) (w : World) : Calls Tryd.prog 55 #[.int .u8 c.toNat] w fun e w' => e = .returned (.int .i64 (-1)) ∧ w = w' := by
  have hc := c.toNat_lt
  generalize c.toNat = n at *
  have h1 : ¬ (48 ≤ n ∧ n ≤ 57) := fun x => by rw [hexV_dig x] at h; cases h
  have h2 : ¬ (97 ≤ n ∧ n ≤ 102) := fun x => by rw [hexV_low x] at h; cases h
  have h3 : ¬ (65 ≤ n ∧ n ≤ 70) := fun x => by rw [hexV_cap x] at h; cases h
  clear h
  go_enter Tryd.func55, Tryd.ntmps55
  go_wp2_with fail
  all_goals (go_ret; first | exact ⟨rfl, rfl⟩ | (exfalso; omega))

theorem intRes_ok (n : Int) (w : World) : Calls Tryd.prog 18 #[.int .u64 n, .int .i64 0] w fun e w' => e = .returned (.tuple #[valV 1 n [] 0, .int .i64 0]) ∧ Below w.heap.size w w' := by
  go_enter Tryd.func18, Tryd.ntmps18
  go_wp2_with fail
  exact bodyPost_ret (v := .tuple #[valV 1 n [] 0, .int .i64 0]) (by simp [results, Tryd.results18, go_sem]) rfl ⟨rfl, (Below.refl _ _).alloc (Nat.le_refl _) _⟩
theorem intRes_err (n x : Int) (w : World) (hx : (x != 0) = true) : Calls Tryd.prog 18 #[.int .u64 n, .int .i64 x] w fun e w' => e = .returned (.tuple #[valV 0 0 [] 0, .int .i64 x]) ∧ Below w.heap.size w w' := by
  go_enter Tryd.func18, Tryd.ntmps18
  go_wp2_with fail
  exact bodyPost_ret (v := .tuple #[valV 0 0 [] 0, .int .i64 x]) (by simp [results, Tryd.results18, go_sem]) rfl ⟨rfl, (Below.refl _ _).alloc (Nat.le_refl _) _⟩

theorem text1_ok (k : Int) (s : List UInt8) (b : Nat) (w : World) (hc : w.cell? ⟨b, 0, none⟩ = some (.int .i64 k)) : Calls Tryd.prog 46 #[.string ⟨s.toArray⟩, .int .i64 0, .pointer (some ⟨b, 0, none⟩)] w fun e w' => e = .returned (.tuple #[valV k 0 s 0, .int .i64 0]) ∧ Below w.heap.size w w' := by
  have hc2 := cell_old hc
  go_enter Tryd.func46, Tryd.ntmps46
  go_wp2_with fail
  exact bodyPost_ret (v := .tuple #[valV k 0 s 0, .int .i64 0]) (by simp [results, Tryd.results46, go_sem]) rfl ⟨rfl, (Below.refl _ _).alloc (Nat.le_refl _) _⟩
theorem text1_err (x : Int) (s : List UInt8) (b : Nat) (w : World) (hx : (x != 0) = true) : Calls Tryd.prog 46 #[.string ⟨s.toArray⟩, .int .i64 x, .pointer (some ⟨b, 0, none⟩)] w fun e w' => e = .returned (.tuple #[valV 0 0 [] 0, .int .i64 x]) ∧ Below w.heap.size w w' := by
  go_enter Tryd.func46, Tryd.ntmps46
  go_wp2_with fail
  exact bodyPost_ret (v := .tuple #[valV 0 0 [] 0, .int .i64 x]) (by simp [results, Tryd.results46, go_sem]) rfl ⟨rfl, (Below.refl _ _).alloc (Nat.le_refl _) _⟩

theorem text_any (k : Int) (w : World) : Calls Tryd.prog 21 #[.int .i64 k] w fun e w' => e = .returned (.func (.func 46) #[] #[.pointer (some ⟨w.heap.size, 0, none⟩)]) ∧ w' = w.alloc (.cells #[.int .i64 k] 3) := by
  go_enter Tryd.func21, Tryd.ntmps21
  go_wp2_with fail
  go_ret
  exact ⟨rfl, rfl⟩

/-- A value without the fields that have no meaning for its kind. -/
def cleanV (k n : Int) (s : List UInt8) (o : Int) : Value := if k = 1 then valV 1 n [] 0 else if k = 2 ∨ k = 3 then valV k 0 s 0 else if k = 0 then valV 0 0 [] 0 else valV k 0 [] o

theorem clean_any (k n o : Int) (s : List UInt8) (w : World) : Calls Tryd.prog 58 #[valV k n s o] w fun e w' => e = .returned (cleanV k n s o) ∧ Below w.heap.size w w' := by
  by_cases h1 : k = 1
  · subst h1
    go_enter Tryd.func58, Tryd.ntmps58
    go_wp2_with fail
    exact bodyPost_ret (v := valV 1 n [] 0) (by simp [results, Tryd.results58, go_sem]) rfl ⟨rfl, ((Below.refl _ _).alloc (Nat.le_refl _) _).alloc (by simp) _⟩
  · by_cases h2 : k = 2
    · subst h2
      go_enter Tryd.func58, Tryd.ntmps58
      go_wp2_with fail
      exact bodyPost_ret (v := valV 2 0 s 0) (by simp [results, Tryd.results58, go_sem]) rfl ⟨rfl, ((Below.refl _ _).alloc (Nat.le_refl _) _).alloc (by simp) _⟩
    · by_cases h3 : k = 3
      · subst h3
        go_enter Tryd.func58, Tryd.ntmps58
        go_wp2_with fail
        exact bodyPost_ret (v := valV 3 0 s 0) (by simp [results, Tryd.results58, go_sem]) rfl ⟨rfl, ((Below.refl _ _).alloc (Nat.le_refl _) _).alloc (by simp) _⟩
      · by_cases h0 : k = 0
        · subst h0
          go_enter Tryd.func58, Tryd.ntmps58
          go_wp2_with fail
          exact bodyPost_ret (v := valV 0 0 [] 0) (by simp [results, Tryd.results58, go_sem]) rfl ⟨rfl, ((Below.refl _ _).alloc (Nat.le_refl _) _).alloc (by simp) _⟩
        · have e1 : (k == 1) = false := by rw [beq_eq_false_iff_ne]; exact h1
          have e2 : (k == 2) = false := by rw [beq_eq_false_iff_ne]; exact h2
          have e3 : (k == 3) = false := by rw [beq_eq_false_iff_ne]; exact h3
          have e0 : (k == 0) = false := by rw [beq_eq_false_iff_ne]; exact h0
          have HR : Hid (cleanV k n s o = valV k 0 [] o) := Lib.hid (by unfold cleanV; rw [if_neg h1, if_neg (by omega), if_neg h0])
          clear h0 h1 h2 h3
          go_enter Tryd.func58, Tryd.ntmps58
          go_wp2_with fail
          exact bodyPost_ret (v := valV k 0 [] o) (by simp [results, Tryd.results58, go_sem]) rfl ⟨by rw [HR.out], ((Below.refl _ _).alloc (Nat.le_refl _) _).alloc (by simp) _⟩

end Go.Proofs.YteifmjhkedhomaaDoor
