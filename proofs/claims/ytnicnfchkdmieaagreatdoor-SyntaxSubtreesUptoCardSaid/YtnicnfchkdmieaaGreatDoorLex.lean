/- letter, digit, identifier, lower, Segment of the reference: the walks. -/
import Derived.Test.YtnicnfchkdmieaaGreatDoorBs
namespace Go.Proofs.YtnicnfchkdmieaaGreatDoor
open Go.RowKit
attribute [local go_sem] ByteArray.mk_append_mk bs_get bs_cut bs_end

def letterB (c : UInt8) : Bool := decide ((97 ≤ c.toNat ∧ c.toNat ≤ 122) ∨ (65 ≤ c.toNat ∧ c.toNat ≤ 90) ∨ c.toNat = 95)
def digitB (c : UInt8) : Bool := decide (48 ≤ c.toNat ∧ c.toNat ≤ 57)
def idB (c : UInt8) : Bool := letterB c || digitB c
def smallB (c : UInt8) : Bool := decide (97 ≤ c.toNat ∧ c.toNat ≤ 122)
def lowerB (s : List UInt8) : Bool := s.any smallB
/-- The index behind the identifier at i. -/
def idEnd (s : List UInt8) (i : Nat) : Nat := i + ((s.drop i).takeWhile idB).length
def segB : List UInt8 → Bool
  | [] => false
  | c :: r => decide (r.length ≤ 3) && letterB c && (c :: r).all idB && !lowerB (c :: r)
theorem boolOf {a b : Bool} (h : a = b) : Ending.returned (.bool a) = .returned (.bool b) := by rw [h]

theorem letter_any (c : UInt8) (w : World) : Calls Tryz.prog 51 #[.int .u8 c.toNat] w fun e w' => e = .returned (.bool (letterB c)) ∧ w = w' := by
  have hc := c.toNat_lt
  unfold letterB
  generalize c.toNat = n at *
  by_cases h1 : 97 ≤ n ∧ n ≤ 122
  · obtain ⟨ha, hb⟩ := h1
    have ha' : (97 : Int) ≤ n := by omega
    have hb' : (n : Int) ≤ 122 := by omega
    have HR := Lib.hid (show true = decide ((97 ≤ n ∧ n ≤ 122) ∨ (65 ≤ n ∧ n ≤ 90) ∨ n = 95) by rw [eq_comm, decide_eq_true_eq]; omega)
    generalize decide ((97 ≤ n ∧ n ≤ 122) ∨ (65 ≤ n ∧ n ≤ 90) ∨ n = 95) = R at *
    go_enter Tryz.func51, Tryz.ntmps51
    go_wp2_with fail
    go_ret
    exact ⟨boolOf HR.out, rfl⟩
  · by_cases h2 : 65 ≤ n ∧ n ≤ 90
    · obtain ⟨ha, hb⟩ := h2
      have ha' : (65 : Int) ≤ n := by omega
      have hb' : (n : Int) ≤ 90 := by omega
      have hc' : ¬ (97 : Int) ≤ n := by omega
      have HR := Lib.hid (show true = decide ((97 ≤ n ∧ n ≤ 122) ∨ (65 ≤ n ∧ n ≤ 90) ∨ n = 95) by rw [eq_comm, decide_eq_true_eq]; omega)
      generalize decide ((97 ≤ n ∧ n ≤ 122) ∨ (65 ≤ n ∧ n ≤ 90) ∨ n = 95) = R at *
      go_enter Tryz.func51, Tryz.ntmps51
      go_wp2_with fail
      go_ret
      exact ⟨boolOf HR.out, rfl⟩
    · have HR : Hid (((n : Int) == 95) = decide ((97 ≤ n ∧ n ≤ 122) ∨ (65 ≤ n ∧ n ≤ 90) ∨ n = 95)) := Lib.hid (by
        rw [Bool.eq_iff_iff, beq_iff_eq, decide_eq_true_eq]; omega)
      generalize decide ((97 ≤ n ∧ n ≤ 122) ∨ (65 ≤ n ∧ n ≤ 90) ∨ n = 95) = R at *
      by_cases h3 : 97 ≤ n
      · have h3' : (97 : Int) ≤ n := by omega
        have h4' : ¬ (n : Int) ≤ 122 := by omega
        have h5' : ¬ (n : Int) ≤ 90 := by omega
        have h6' : (65 : Int) ≤ n := by omega
        go_enter Tryz.func51, Tryz.ntmps51
        go_wp2_with fail
        go_ret
        exact ⟨boolOf HR.out, rfl⟩
      · have h3' : ¬ (97 : Int) ≤ n := by omega
        by_cases h4 : 65 ≤ n
        · have h4' : (65 : Int) ≤ n := by omega
          have h5' : ¬ (n : Int) ≤ 90 := by omega
          go_enter Tryz.func51, Tryz.ntmps51
          go_wp2_with fail
          go_ret
          exact ⟨boolOf HR.out, rfl⟩
        · have h4' : ¬ (65 : Int) ≤ n := by omega
          go_enter Tryz.func51, Tryz.ntmps51
          go_wp2_with fail
          go_ret
          exact ⟨boolOf HR.out, rfl⟩
theorem digit_any (c : UInt8) (w : World) : Calls Tryz.prog 55 #[.int .u8 c.toNat] w fun e w' => e = .returned (.bool (digitB c)) ∧ w = w' := by
  have hc := c.toNat_lt
  unfold digitB
  generalize c.toNat = n at *
  have HR : Hid (decide ((n : Int) ≤ 57) = decide (48 ≤ n ∧ n ≤ 57) ∨ ¬ 48 ≤ n) := Lib.hid (by
    by_cases h : 48 ≤ n
    · left; rw [Bool.eq_iff_iff, decide_eq_true_eq, decide_eq_true_eq]; omega
    · right; exact h)
  have HF : Hid (¬ 48 ≤ n → false = decide (48 ≤ n ∧ n ≤ 57)) := Lib.hid (fun h => by rw [eq_comm, decide_eq_false_iff_not]; omega)
  generalize decide (48 ≤ n ∧ n ≤ 57) = R at *
  by_cases h : 48 ≤ n
  · have h' : (48 : Int) ≤ n := by omega
    go_enter Tryz.func55, Tryz.ntmps55
    go_wp2_with fail
    go_ret
    exact ⟨boolOf (HR.out.resolve_right (fun x => x h)), rfl⟩
  · have h' : ¬ (48 : Int) ≤ n := by omega
    go_enter Tryz.func55, Tryz.ntmps55
    go_wp2_with fail
    go_ret
    exact ⟨boolOf (HF.out h), rfl⟩
theorem idEnd_at (s : List UInt8) (i : Nat) (h : i < s.length) : idEnd s i = if idB s[i] = true then idEnd s (i + 1) else i := by
  unfold idEnd
  rw [List.drop_eq_getElem_cons h, List.takeWhile_cons]
  split
  · rw [List.length_cons]; omega
  · rfl
theorem idEnd_out (s : List UInt8) (i : Nat) (h : s.length ≤ i) : idEnd s i = i := by
  unfold idEnd
  rw [List.drop_eq_nil_of_le h]; rfl
theorem idEnd_le (s : List UInt8) (i : Nat) (h : i ≤ s.length) : idEnd s i ≤ s.length := by
  unfold idEnd
  have := (List.takeWhile_sublist (l := s.drop i) idB).length_le
  rw [List.length_drop] at this
  omega
theorem idEnd_ge (s : List UInt8) (i : Nat) : i ≤ idEnd s i := Nat.le_add_right _ _
theorem ident_any (s : List UInt8) (i : Nat) (w : World) (hs : s.length ≤ 9223372036854775000) (hi : i ≤ 9223372036854775000) :
    Calls Tryz.prog 53 #[.string ⟨s.toArray⟩, .int .i64 i] w fun e w' => e = .returned (.int .i64 (idEnd s i : Nat)) ∧ w = w' := by
  go_enter Tryz.func53, Tryz.ntmps53
  go_wp2_with fail
  go_loop [1] (fun v => ∃ k : Nat, v = .int .i64 k ∧ k ≤ 9223372036854775000 ∧ idEnd s i = idEnd s k) (fun v => s.length - (intOf v).toNat)
  case atStart => exact ⟨i, rfl, hi, rfl⟩
  case round =>
    obtain ⟨k, rfl, hk, he⟩ := hrel
    have HE := Lib.hid he
    clear he
    by_cases hl : k < s.length
    · have hat := Lib.hid (idEnd_at s k hl)
      by_cases h1 : letterB s[k] = true
      · have hid : Hid (idB s[k] = true) := Lib.hid (by unfold idB; rw [h1]; rfl)
        go_wp2_with (go_at_call 51; refine (letter_any _ _).mono ?_; rintro e w' ⟨rfl, rfl⟩)
        go_round
        case rel => exact ⟨k + 1, by go_num, by omega, by rw [HE.out, hat.out, if_pos hid.out]⟩
        case measure => simp [intOf]; omega
      · have h1' : letterB s[k] = false := by simpa using h1
        clear h1
        by_cases h2 : digitB s[k] = true
        · have hid : Hid (idB s[k] = true) := Lib.hid (by unfold idB; rw [h2]; simp)
          go_wp2_with (first | (go_at_call 51; refine (letter_any _ _).mono ?_; rintro e w' ⟨rfl, rfl⟩) | (go_at_call 55; refine (digit_any _ _).mono ?_; rintro e w' ⟨rfl, rfl⟩))
          go_round
          case rel => exact ⟨k + 1, by go_num, by omega, by rw [HE.out, hat.out, if_pos hid.out]⟩
          case measure => simp [intOf]; omega
        · have h2' : digitB s[k] = false := by simpa using h2
          clear h2
          have hid : Hid (idEnd s i = k) := Lib.hid (by rw [HE.out, hat.out, if_neg (by unfold idB; rw [h1', h2']; decide)])
          go_wp2_with (first | (go_at_call 51; refine (letter_any _ _).mono ?_; rintro e w' ⟨rfl, rfl⟩) | (go_at_call 55; refine (digit_any _ _).mono ?_; rintro e w' ⟨rfl, rfl⟩))
          go_ret
          exact ⟨by rw [hid.out]; rfl, rfl⟩
    · have hid : Hid (idEnd s i = k) := Lib.hid (by rw [HE.out, idEnd_out s k (by omega)])
      go_wp2_with fail
      go_ret
      exact ⟨by rw [hid.out]; rfl, rfl⟩
theorem ident_0 (s : List UInt8) (w : World) (hs : s.length ≤ 9223372036854775000) :
    Calls Tryz.prog 53 #[.string ⟨s.toArray⟩, .int .i64 0] w fun e w' => e = .returned (.int .i64 (idEnd s 0 : Nat)) ∧ w = w' := ident_any s 0 w hs (Nat.zero_le _)
theorem lower_any (s : List UInt8) (w : World) (hs : s.length ≤ 9223372036854775000) :
    Calls Tryz.prog 52 #[.string ⟨s.toArray⟩] w fun e w' => e = .returned (.bool (lowerB s)) ∧ w = w' := by
  go_enter Tryz.func52, Tryz.ntmps52
  go_wp2_with fail
  go_loop [3] (fun v => ∃ k : Nat, v = .int .i64 k ∧ k ≤ s.length ∧ lowerB s = (s.drop k).any smallB) (fun v => s.length - (intOf v).toNat)
  case atStart => exact ⟨0, rfl, Nat.zero_le _, rfl⟩
  case round =>
    obtain ⟨k, rfl, hk, he⟩ := hrel
    by_cases hl : k < s.length
    · rw [List.drop_eq_getElem_cons hl, List.any_cons] at he
      have hnl := s[k].toNat_lt
      by_cases h1 : 97 ≤ s[k].toNat
      · have h1' : (97 : Int) ≤ s[k].toNat := by omega
        by_cases h2 : s[k].toNat ≤ 122
        · have h2' : (s[k].toNat : Int) ≤ 122 := by omega
          have HE : Hid (lowerB s = true) := Lib.hid (by rw [he, show smallB s[k] = true by unfold smallB; rw [decide_eq_true_eq]; exact ⟨h1, h2⟩]; rfl)
          clear he
          go_wp2_with fail
          go_ret
          exact ⟨by rw [HE.out]; rfl, rfl⟩
        · have h2' : ¬ (s[k].toNat : Int) ≤ 122 := by omega
          have HE : Hid (lowerB s = (s.drop (k + 1)).any smallB) := Lib.hid (by rw [he, show smallB s[k] = false by unfold smallB; rw [decide_eq_false_iff_not]; omega]; rfl)
          clear he
          go_wp2_with fail
          go_round
          case rel => exact ⟨k + 1, by go_num, by omega, HE.out⟩
          case measure => simp [intOf]; omega
      · have h1' : ¬ (97 : Int) ≤ s[k].toNat := by omega
        have HE : Hid (lowerB s = (s.drop (k + 1)).any smallB) := Lib.hid (by rw [he, show smallB s[k] = false by unfold smallB; rw [decide_eq_false_iff_not]; omega]; rfl)
        clear he
        go_wp2_with fail
        go_round
        case rel => exact ⟨k + 1, by go_num, by omega, HE.out⟩
        case measure => simp [intOf]; omega
    · rw [List.drop_eq_nil_of_le (by omega)] at he
      have HE := Lib.hid he
      clear he
      go_wp2_with fail
      go_ret
      exact ⟨by rw [HE.out]; rfl, rfl⟩
theorem idEnd_all (s : List UInt8) : idEnd s 0 = s.length ↔ s.all idB = true := by
  unfold idEnd
  rw [List.drop_zero, Nat.zero_add]
  induction s with
  | nil => simp
  | cons c r ih =>
    rw [List.takeWhile_cons, List.all_cons]
    by_cases h : idB c = true
    · rw [if_pos h, List.length_cons, List.length_cons, h, Bool.true_and, ← ih]; omega
    · rw [if_neg h]
      simp at h
      simp [h]
theorem segB_long {c : UInt8} {r : List UInt8} (h : ¬ r.length ≤ 3) : segB (c :: r) = false := by
  rw [segB, decide_eq_false h]; rfl
theorem segB_letter {c : UInt8} {r : List UInt8} (h : letterB c = false) : segB (c :: r) = false := by
  rw [segB, h]; simp
theorem segB_id {c : UInt8} {r : List UInt8} (h : ¬ idEnd (c :: r) 0 = (c :: r).length) : segB (c :: r) = false := by
  rw [segB]
  rw [idEnd_all] at h
  rw [show (c :: r).all idB = false by simpa using h]; simp
theorem segB_rest {c : UInt8} {r : List UInt8} (h0 : r.length ≤ 3) (h1 : letterB c = true) (h : idEnd (c :: r) 0 = (c :: r).length) : segB (c :: r) = !lowerB (c :: r) := by
  rw [segB]
  rw [idEnd_all] at h
  rw [h, h1, decide_eq_true h0]; rfl
set_option maxHeartbeats 1000000 in
theorem segmentB_any (s : List UInt8) (w : World) (hs : s.length ≤ 9223372036854775000) :
    Calls Tryz.prog 108 #[.string ⟨s.toArray⟩] w fun e w' => e = .returned (.bool (segB s)) ∧ w = w' := by
  match s, hs with
  | [], _ =>
    go_enter Tryz.func108, Tryz.ntmps108
    go_wp2_with fail
    go_ret
    exact ⟨rfl, rfl⟩
  | c :: r, hs =>
    rw [List.length_cons] at hs
    have h1 : ((1 : Int) ≤ (r.length : Int) + 1) := by omega
    by_cases h3 : r.length ≤ 3
    · have h3' : (r.length : Int) + 1 ≤ 4 := by omega
      by_cases hl : letterB c = true
      · by_cases hid : idEnd (c :: r) 0 = (c :: r).length
        · have HR := Lib.hid (segB_rest h3 hl hid)
          have HID := Lib.hid hid
          clear hid
          go_enter Tryz.func108, Tryz.ntmps108
          go_wp2_with fail
          ((with_reducible refine (letter_any _ _).mono ?_))
          rintro e w' ⟨rfl, rfl⟩
          rw [hl]
          go_wp2_with fail
          ((with_reducible refine (ident_0 (c :: r) _ (by rw [List.length_cons]; omega)).mono ?_))
          rintro e w' ⟨rfl, rfl⟩
          rw [HID.out]
          go_wp2_with fail
          ((with_reducible refine (lower_any (c :: r) _ (by rw [List.length_cons]; omega)).mono ?_))
          rintro e w' ⟨rfl, rfl⟩
          go_wp2_with fail
          go_ret
          exact ⟨boolOf HR.out.symm, rfl⟩
        · have HR := Lib.hid (segB_id hid)
          have hne : ((idEnd (c :: r) 0 : Int) == (r.length : Int) + 1) = false := by rw [beq_eq_false_iff_ne]; rw [List.length_cons] at hid; omega
          clear hid
          go_enter Tryz.func108, Tryz.ntmps108
          go_wp2_with fail
          ((with_reducible refine (letter_any _ _).mono ?_))
          rintro e w' ⟨rfl, rfl⟩
          rw [hl]
          go_wp2_with fail
          ((with_reducible refine (ident_0 (c :: r) _ (by rw [List.length_cons]; omega)).mono ?_))
          rintro e w' ⟨rfl, rfl⟩
          go_wp2_with fail
          go_ret
          exact ⟨boolOf HR.out.symm, rfl⟩
      · have hl' : letterB c = false := by simpa using hl
        have HR := Lib.hid (segB_letter (r := r) hl')
        clear hl
        go_enter Tryz.func108, Tryz.ntmps108
        go_wp2_with fail
        ((with_reducible refine (letter_any _ _).mono ?_))
        rintro e w' ⟨rfl, rfl⟩
        rw [hl']
        go_wp2_with fail
        go_ret
        exact ⟨boolOf HR.out.symm, rfl⟩
    · have h3' : ¬ (r.length : Int) + 1 ≤ 4 := by omega
      have HR := Lib.hid (segB_long (c := c) h3)
      go_enter Tryz.func108, Tryz.ntmps108
      go_wp2_with fail
      go_ret
      exact ⟨boolOf HR.out.symm, rfl⟩
theorem segmentB_is (s : List UInt8) (b : Bool) (H : Hid (segB s = b)) (w : World) (hs : s.length ≤ 9223372036854775000) :
    Calls Tryz.prog 108 #[.string ⟨s.toArray⟩] w fun e w' => e = .returned (.bool b) ∧ w = w' :=
  (segmentB_any s w hs).mono fun _ _ ⟨he, hw⟩ => ⟨by rw [he, H.out], hw⟩
end Go.Proofs.YtnicnfchkdmieaaGreatDoor
