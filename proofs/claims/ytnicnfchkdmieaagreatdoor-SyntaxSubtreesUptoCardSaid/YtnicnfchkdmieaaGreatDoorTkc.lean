/- wordLength, hasLower, prefixLength: the walks; names in plain lists. -/
import Derived.Test.YtnicnfchkdmieaaGreatDoorTkb
import Derived.Test.YtnicnfchkdmieaaGreatDoorShelf
namespace Go.Proofs.YtnicnfchkdmieaaGreatDoor
open Go.RowKit
set_option linter.unusedVariables false
set_option linter.unusedSimpArgs false
attribute [local go_sem] ByteArray.mk_append_mk bs_get bs_cut bs_end

theorem tIsStart_is (c : UInt8) (b : Bool) (H : letterB c = b) (w : World) : Calls Tryz.prog 95 #[.int .u8 c.toNat] w fun e w' => e = .returned (.bool b) ∧ w = w' := by
  rw [← H]; exact tIsStart_any c w
theorem wordN_end (s : List UInt8) : wordN s = idEnd s 0 := by unfold wordN idEnd; simp
theorem wordN_le (s : List UInt8) : wordN s ≤ s.length := (List.takeWhile_sublist (l := s) idB).length_le
set_option maxHeartbeats 1000000 in
theorem tWord_any (s : List UInt8) (w : World) (hs : s.length ≤ 9223372036854775000) :
    Calls Tryz.prog 93 #[.string ⟨s.toArray⟩] w fun e w' => e = .returned (.int .i64 (wordN s : Nat)) ∧ w = w' := by
  rw [wordN_end]
  go_enter Tryz.func93, Tryz.ntmps93
  go_wp2_with fail
  go_loop [3] (fun v => ∃ k : Nat, v = .int .i64 k ∧ k ≤ s.length ∧ Hid (idEnd s 0 = idEnd s k)) (fun v => s.length - (intOf v).toNat)
  case atStart => exact ⟨0, rfl, by omega, Lib.hid rfl⟩
  case round =>
    obtain ⟨k, rfl, hk, HE⟩ := hrel
    by_cases hl : k < s.length
    · have hat := Lib.hid (idEnd_at s k hl)
      cases h1 : letterB s[k]
      · cases h2 : digitB s[k]
        · have hid : Hid (idEnd s 0 = k) := Lib.hid (by rw [HE.out, hat.out, if_neg (by unfold idB; rw [h1, h2]; decide)])
          go_wp2_with (first | (go_at_call 95; refine (tIsStart_is _ _ h1 _).mono ?_; rintro e w' ⟨rfl, rfl⟩) | (go_at_call 92; refine (tIsDigit_is _ _ h2 _).mono ?_; rintro e w' ⟨rfl, rfl⟩))
          go_ret
          exact ⟨by rw [hid.out]; rfl, rfl⟩
        · have hid : Hid (idB s[k] = true) := Lib.hid (by unfold idB; rw [h2]; simp)
          go_wp2_with (first | (go_at_call 95; refine (tIsStart_is _ _ h1 _).mono ?_; rintro e w' ⟨rfl, rfl⟩) | (go_at_call 92; refine (tIsDigit_is _ _ h2 _).mono ?_; rintro e w' ⟨rfl, rfl⟩))
          go_round
          case rel => exact ⟨k + 1, by go_num, by omega, Lib.hid (by rw [HE.out, hat.out, if_pos hid.out])⟩
          case measure => simp [intOf]; omega
      · have hid : Hid (idB s[k] = true) := Lib.hid (by unfold idB; rw [h1]; rfl)
        go_wp2_with (go_at_call 95; refine (tIsStart_is _ _ h1 _).mono ?_; rintro e w' ⟨rfl, rfl⟩)
        go_round
        case rel => exact ⟨k + 1, by go_num, by omega, Lib.hid (by rw [HE.out, hat.out, if_pos hid.out])⟩
        case measure => simp [intOf]; omega
    · have hid : Hid (idEnd s 0 = k) := Lib.hid (by rw [HE.out, idEnd_out s k (by omega)])
      go_wp2_with fail
      go_ret
      exact ⟨by rw [hid.out]; rfl, rfl⟩
theorem any_drop {s : List UInt8} {k : Nat} (h : k < s.length) : lowerB (s.drop k) = (smallB s[k] || lowerB (s.drop (k + 1))) := by
  unfold lowerB
  rw [List.drop_eq_getElem_cons h, List.any_cons]
set_option maxHeartbeats 1000000 in
theorem tLower_any (s : List UInt8) (w : World) (hs : s.length ≤ 9223372036854775000) :
    Calls Tryz.prog 96 #[.string ⟨s.toArray⟩] w fun e w' => e = .returned (.bool (lowerB s)) ∧ w = w' := by
  go_enter Tryz.func96, Tryz.ntmps96
  go_wp2_with fail
  go_loop [6] (fun v => ∃ k : Nat, v = .int .i64 k ∧ k ≤ s.length ∧ Hid (lowerB s = lowerB (s.drop k))) (fun v => s.length - (intOf v).toNat)
  case atStart => exact ⟨0, rfl, by omega, Lib.hid rfl⟩
  case round =>
    obtain ⟨k, rfl, hk, HE⟩ := hrel
    by_cases hl : k < s.length
    · have hat := Lib.hid (any_drop hl)
      cases h1 : smallB s[k]
      · have HE2 : Hid (lowerB s = lowerB (s.drop (k + 1))) := Lib.hid (by rw [HE.out, hat.out, h1]; rfl)
        go_wp2_with (go_at_call 139; refine (tIsLower_is _ _ h1 _).mono ?_; rintro e w' ⟨rfl, rfl⟩)
        go_round
        case rel => exact ⟨k + 1, by go_num, by omega, HE2⟩
        case measure => simp [intOf]; omega
      · have HE2 : Hid (lowerB s = true) := Lib.hid (by rw [HE.out, hat.out, h1]; rfl)
        go_wp2_with (go_at_call 139; refine (tIsLower_is _ _ h1 _).mono ?_; rintro e w' ⟨rfl, rfl⟩)
        go_ret
        exact ⟨by rw [HE2.out]; rfl, rfl⟩
    · have HE2 : Hid (lowerB s = false) := Lib.hid (by rw [HE.out, List.drop_eq_nil_of_le (by omega)]; rfl)
      go_wp2_with fail
      go_ret
      exact ⟨by rw [HE2.out]; rfl, rfl⟩
theorem byte_eq (c : UInt8) (d : UInt8) : ((c.toNat : Int) == (d.toNat : Int)) = (d == c) := by
  rw [Bool.eq_iff_iff, beq_iff_eq, beq_iff_eq]
  constructor
  · intro h; exact (UInt8.toNat_inj.1 (by omega)).symm
  · rintro rfl; rfl
theorem hasPre_cons (c d : UInt8) (t : List UInt8) : Lib.hasPrefix (c :: t) [d] = (d == c) := by simp [Lib.hasPrefix, List.isPrefixOf]
def caretE (s : List UInt8) (k : Nat) : Nat := k + caretN (s.drop k)
theorem caretE_at {s : List UInt8} {k : Nat} (h : k < s.length) : caretE s k = if (94 == s[k]) = true then caretE s (k + 1) else k := by
  unfold caretE caretN
  rw [List.drop_eq_getElem_cons h, List.takeWhile_cons]
  have e : (s[k] == 94) = (94 == s[k]) := by rw [Bool.eq_iff_iff, beq_iff_eq, beq_iff_eq]; exact eq_comm
  rw [e]
  split
  · rw [List.length_cons]; omega
  · rfl
theorem caretN_le (s : List UInt8) : caretN s ≤ s.length := (List.takeWhile_sublist (l := s) (· == (94 : UInt8))).length_le
theorem preN_le (s : List UInt8) : preN s ≤ s.length := by
  unfold preN
  split
  · simp
  · exact caretN_le _
theorem preN_root {s : List UInt8} (h : Lib.hasPrefix s [92] = true) : preN s = 1 := by
  cases s with
  | nil => cases h
  | cons c t =>
    rw [hasPre_cons, beq_iff_eq] at h
    subst h
    rfl
theorem preN_not {s : List UInt8} (h : Lib.hasPrefix s [92] = false) : preN s = caretE s 0 := by
  unfold preN
  split
  · rw [hasPre_cons] at h; cases h
  · unfold caretE; simp
set_option maxHeartbeats 1000000 in
theorem tPre_any (s : List UInt8) (w : World) (hs : s.length ≤ 9223372036854775000) :
    Calls Tryz.prog 164 #[.string ⟨s.toArray⟩] w fun e w' => e = .returned (.int .i64 (preN s : Nat)) ∧ w = w' := by
  have HP := Lib.hid (Tryz.strings_HasPrefix ⟨s.toArray⟩ ⟨#[92]⟩ w)
  rw [show Lib.hasPrefix (ByteArray.mk s.toArray).data.toList (ByteArray.mk #[92]).data.toList = Lib.hasPrefix s [92] from rfl] at HP
  cases hb : Lib.hasPrefix s [92]
  · rw [hb] at HP
    rw [preN_not hb]
    go_enter Tryz.func164, Tryz.ntmps164
    go_wp2_with fail
    ((with_reducible refine HP.out.mono ?_))
    rintro e w2 ⟨rfl, rfl⟩
    clear HP
    go_wp2_with fail
    go_loop [3] (fun v => ∃ k : Nat, v = .int .i64 k ∧ k ≤ s.length ∧ Hid (caretE s 0 = caretE s k)) (fun v => s.length - (intOf v).toNat)
    case atStart => exact ⟨0, rfl, by omega, Lib.hid rfl⟩
    case round =>
      obtain ⟨k, rfl, hk, HE⟩ := hrel
      by_cases hl : k < s.length
      · have hat := Lib.hid (caretE_at hl)
        have hcc : ((s[k].toNat : Int) == 94) = (94 == s[k]) := byte_eq s[k] 94
        cases h1 : ((94 : UInt8) == s[k])
        · rw [h1] at hcc
          have HE2 : Hid (caretE s 0 = k) := Lib.hid (by rw [HE.out, hat.out, h1]; rfl)
          clear h1
          go_wp2_with fail
          go_ret
          exact ⟨by rw [HE2.out]; rfl, rfl⟩
        · rw [h1] at hcc
          have HE2 : Hid (caretE s 0 = caretE s (k + 1)) := Lib.hid (by rw [HE.out, hat.out, h1]; rfl)
          clear h1
          go_wp2_with fail
          go_round
          case rel => exact ⟨k + 1, by go_num, by omega, HE2⟩
          case measure => simp [intOf]; omega
      · have HE2 : Hid (caretE s 0 = k) := Lib.hid (by rw [HE.out]; unfold caretE caretN; rw [List.drop_eq_nil_of_le (by omega)]; rfl)
        go_wp2_with fail
        go_ret
        exact ⟨by rw [HE2.out]; rfl, rfl⟩
  · rw [hb] at HP
    rw [preN_root hb]
    go_enter Tryz.func164, Tryz.ntmps164
    go_wp2_with fail
    ((with_reducible refine HP.out.mono ?_))
    rintro e w2 ⟨rfl, rfl⟩
    go_wp2_with fail
    go_ret
    exact ⟨rfl, rfl⟩
end Go.Proofs.YtnicnfchkdmieaaGreatDoor
