/- Se -/
import Derived.Test.YtnicnfchkdmieaaGreatDoorZSd
set_option linter.unusedVariables false
set_option linter.unusedSimpArgs false
namespace Go.Proofs.YtnicnfchkdmieaaGreatDoor
open Go.RowKit
attribute [local go_sem] ByteArray.mk_append_mk bs_get bs_cut bs_end
theorem elem_any (op : Int) (w : World) : Calls Tryz.prog 118 #[.int .i64 op] w fun e w' => e = .returned (.bool (elemB op)) ∧ w = w' := by
 go_enter Tryz.func118, Tryz.ntmps118
 go_wp2_with fail
 all_goals
  go_ret
  exact ⟨by simp [elemB, *], rfl⟩
theorem data_any (op : Int) (w : World) : Calls Tryz.prog 117 #[.int .i64 op] w fun e w' => e = .returned (.bool (dataB op)) ∧ w = w' := by
 go_enter Tryz.func117, Tryz.ntmps117
 go_wp2_with fail
 all_goals
  go_ret
  exact ⟨by simp [dataB, *], rfl⟩
theorem data_is (op : Int) (b : Bool) (H : Hid (dataB op = b)) (w : World) : Calls Tryz.prog 117 #[.int .i64 op] w fun e w' => e = .returned (.bool b) ∧ w = w' := by
 have := data_any op w
 rw [H.out] at this
 exact this
theorem elem_is (op : Int) (b : Bool) (H : Hid (elemB op = b)) (w : World) : Calls Tryz.prog 118 #[.int .i64 op] w fun e w' => e = .returned (.bool b) ∧ w = w' := by
 have := elem_any op w
 rw [H.out] at this
 exact this
theorem isBlk_any (k : UInt8) (w : World) : Calls Tryz.prog 121 #[.int .u8 k.toNat] w fun e w' => e = .returned (.bool (blkB k)) ∧ w = w' := by
 have h1 : decide (65 ≤ k.toNat) = decide (65 ≤ (k.toNat : Int)) := by simp only [decide_eq_decide]; omega
 have h2 : decide (k.toNat ≤ 90) = decide ((k.toNat : Int) ≤ 90) := by simp only [decide_eq_decide]; omega
 unfold blkB
 rw [h1, h2]
 go_enter Tryz.func121, Tryz.ntmps121
 go_wp2_with fail
 all_goals
  go_ret
  exact ⟨by first | (simp [*]; done) | (simp [*]; omega), rfl⟩
theorem byte_int (k c : UInt8) : ((k.toNat : Int) == (c.toNat : Int)) = (k == c) := (byte_eq k c).trans (by rw [Bool.eq_iff_iff, beq_iff_eq, beq_iff_eq]; exact eq_comm)
theorem isList_any (k : UInt8) (w : World) : Calls Tryz.prog 157 #[.int .u8 k.toNat] w fun e w' => e = .returned (.bool (listB k)) ∧ w = w' := by
 have h1 := byte_int k 73
 have h2 := byte_int k 80
 unfold listB
 rw [← h1, ← h2]
 clear h1 h2
 go_enter Tryz.func157, Tryz.ntmps157
 go_wp2_with fail
 all_goals
  go_ret
  exact ⟨by simp [*], rfl⟩
theorem expr_any (op : Int) (w : World) : Calls Tryz.prog 116 #[.int .i64 op] w fun e w' => e = .returned (.bool (exprB op)) ∧ w = w' := by
 obtain ⟨d, hd⟩ : ∃ d, Hid (dataB op = d) := ⟨_, Lib.hid rfl⟩
 unfold exprB
 rw [hd.out]
 go_enter Tryz.func116, Tryz.ntmps116
 cases d <;> go_wp2_with (go_at_call 117; ((with_reducible refine (data_is op _ hd _).mono ?_)); rintro e w1 ⟨rfl, rfl⟩)
 all_goals
  go_ret
  exact ⟨by first | (simp [*]; done) | (simp [*]; omega), rfl⟩
theorem expr_is (op : Int) (b : Bool) (H : Hid (exprB op = b)) (w : World) : Calls Tryz.prog 116 #[.int .i64 op] w fun e w' => e = .returned (.bool b) ∧ w = w' := by
 have := expr_any op w
 rw [H.out] at this
 exact this
theorem acc_110 (op : Int) (w : World) : Calls Tryz.prog 73 #[.int .u8 110, .int .i64 op] w fun e w' => e = .returned (.bool (accB 110 op)) ∧ w = w' := by
 rw [show accB 110 op = (op == 3) from rfl]
 go_enter Tryz.func73, Tryz.ntmps73
 go_wp2_with fail
 all_goals
  go_ret
  exact ⟨by first | (simp [*]; done) | (simp [*]; omega), rfl⟩
theorem acc_115 (op : Int) (w : World) : Calls Tryz.prog 73 #[.int .u8 115, .int .i64 op] w fun e w' => e = .returned (.bool (accB 115 op)) ∧ w = w' := by
 rw [show accB 115 op = (op == 3) from rfl]
 go_enter Tryz.func73, Tryz.ntmps73
 go_wp2_with fail
 all_goals
  go_ret
  exact ⟨by first | (simp [*]; done) | (simp [*]; omega), rfl⟩
theorem acc_105 (op : Int) (w : World) : Calls Tryz.prog 73 #[.int .u8 105, .int .i64 op] w fun e w' => e = .returned (.bool (accB 105 op)) ∧ w = w' := by
 rw [show accB 105 op = (op == 1) from rfl]
 go_enter Tryz.func73, Tryz.ntmps73
 go_wp2_with fail
 all_goals
  go_ret
  exact ⟨by first | (simp [*]; done) | (simp [*]; omega), rfl⟩
theorem acc_73 (op : Int) (w : World) : Calls Tryz.prog 73 #[.int .u8 73, .int .i64 op] w fun e w' => e = .returned (.bool (accB 73 op)) ∧ w = w' := by
 rw [show accB 73 op = (op == 1) from rfl]
 go_enter Tryz.func73, Tryz.ntmps73
 go_wp2_with fail
 all_goals
  go_ret
  exact ⟨by first | (simp [*]; done) | (simp [*]; omega), rfl⟩
theorem acc_101 (op : Int) (w : World) : Calls Tryz.prog 73 #[.int .u8 101, .int .i64 op] w fun e w' => e = .returned (.bool (accB 101 op)) ∧ w = w' := by
 obtain ⟨d, hd⟩ : ∃ d, Hid (exprB op = d) := ⟨_, Lib.hid rfl⟩
 rw [show accB 101 op = exprB op from rfl, hd.out]
 go_enter Tryz.func73, Tryz.ntmps73
 cases d <;> go_wp2_with (go_at_call 116; ((with_reducible refine (expr_is op _ hd _).mono ?_)); rintro e w1 ⟨rfl, rfl⟩)
 all_goals
  go_ret
  exact ⟨by first | (simp [*]; done) | (simp [*]; omega), rfl⟩
theorem acc_116 (op : Int) (w : World) : Calls Tryz.prog 73 #[.int .u8 116, .int .i64 op] w fun e w' => e = .returned (.bool (accB 116 op)) ∧ w = w' := by
 rw [show accB 116 op = (op == 3 || op == 6 || op == 7 || op == 76 || op == 84) from rfl]
 go_enter Tryz.func73, Tryz.ntmps73
 go_wp2_with fail
 all_goals
  go_ret
  exact ⟨by first | (simp [*]; done) | (simp [*]; omega), rfl⟩
theorem acc_100 (op : Int) (w : World) : Calls Tryz.prog 73 #[.int .u8 100, .int .i64 op] w fun e w' => e = .returned (.bool (accB 100 op)) ∧ w = w' := by
 obtain ⟨d, hd⟩ : ∃ d, Hid (dataB op = d) := ⟨_, Lib.hid rfl⟩
 rw [show accB 100 op = dataB op from rfl, hd.out]
 go_enter Tryz.func73, Tryz.ntmps73
 cases d <;> go_wp2_with (go_at_call 117; ((with_reducible refine (data_is op _ hd _).mono ?_)); rintro e w1 ⟨rfl, rfl⟩)
 all_goals
  go_ret
  exact ⟨by first | (simp [*]; done) | (simp [*]; omega), rfl⟩
theorem acc_80 (op : Int) (w : World) : Calls Tryz.prog 73 #[.int .u8 80, .int .i64 op] w fun e w' => e = .returned (.bool (accB 80 op)) ∧ w = w' := by
 obtain ⟨d, hd⟩ : ∃ d, Hid (dataB op = d) := ⟨_, Lib.hid rfl⟩
 rw [show accB 80 op = (dataB op || op == 3) from rfl, hd.out]
 go_enter Tryz.func73, Tryz.ntmps73
 cases d <;> go_wp2_with (go_at_call 117; ((with_reducible refine (data_is op _ hd _).mono ?_)); rintro e w1 ⟨rfl, rfl⟩)
 all_goals
  go_ret
  exact ⟨by first | (simp [*]; done) | (simp [*]; omega), rfl⟩
theorem acc_68 (op : Int) (w : World) : Calls Tryz.prog 73 #[.int .u8 68, .int .i64 op] w fun e w' => e = .returned (.bool (accB 68 op)) ∧ w = w' := by
 obtain ⟨d, hd⟩ : ∃ d, Hid (elemB op = d) := ⟨_, Lib.hid rfl⟩
 rw [show accB 68 op = (decide (10 ≤ op) && decide (op ≤ 21) && !elemB op) from rfl, hd.out]
 go_enter Tryz.func73, Tryz.ntmps73
 cases d <;> go_wp2_with (go_at_call 118; ((with_reducible refine (elem_is op _ hd _).mono ?_)); rintro e w1 ⟨rfl, rfl⟩)
 all_goals
  go_ret
  exact ⟨by first | (simp [*]; done) | (simp [*]; omega), rfl⟩
theorem acc_70 (op : Int) (w : World) : Calls Tryz.prog 73 #[.int .u8 70, .int .i64 op] w fun e w' => e = .returned (.bool (accB 70 op)) ∧ w = w' := by
 obtain ⟨d, hd⟩ : ∃ d, Hid (elemB op = d) := ⟨_, Lib.hid rfl⟩
 rw [show accB 70 op = elemB op from rfl, hd.out]
 go_enter Tryz.func73, Tryz.ntmps73
 cases d <;> go_wp2_with (go_at_call 118; ((with_reducible refine (elem_is op _ hd _).mono ?_)); rintro e w1 ⟨rfl, rfl⟩)
 all_goals
  go_ret
  exact ⟨by first | (simp [*]; done) | (simp [*]; omega), rfl⟩
theorem acc_83 (op : Int) (w : World) : Calls Tryz.prog 73 #[.int .u8 83, .int .i64 op] w fun e w' => e = .returned (.bool (accB 83 op)) ∧ w = w' := by
 rw [show accB 83 op = ((decide (30 ≤ op) && decide (op ≤ 42)) || op == 5) from rfl]
 go_enter Tryz.func73, Tryz.ntmps73
 go_wp2_with fail
 all_goals
  go_ret
  exact ⟨by first | (simp [*]; done) | (simp [*]; omega), rfl⟩
theorem acc_none (k : UInt8) (op : Int) (w : World) (h110 : k ≠ 110) (h115 : k ≠ 115) (h105 : k ≠ 105) (h73 : k ≠ 73) (h101 : k ≠ 101) (h116 : k ≠ 116) (h100 : k ≠ 100) (h80 : k ≠ 80) (h68 : k ≠ 68) (h70 : k ≠ 70) (h83 : k ≠ 83) : Calls Tryz.prog 73 #[.int .u8 k.toNat, .int .i64 op] w fun e w' => e = .returned (.bool false) ∧ w = w' := by
 have e110 : ((k.toNat : Int) == 110) = false := (byte_int k 110).trans (beq_eq_false_iff_ne.2 h110)
 have e115 : ((k.toNat : Int) == 115) = false := (byte_int k 115).trans (beq_eq_false_iff_ne.2 h115)
 have e105 : ((k.toNat : Int) == 105) = false := (byte_int k 105).trans (beq_eq_false_iff_ne.2 h105)
 have e73 : ((k.toNat : Int) == 73) = false := (byte_int k 73).trans (beq_eq_false_iff_ne.2 h73)
 have e101 : ((k.toNat : Int) == 101) = false := (byte_int k 101).trans (beq_eq_false_iff_ne.2 h101)
 have e116 : ((k.toNat : Int) == 116) = false := (byte_int k 116).trans (beq_eq_false_iff_ne.2 h116)
 have e100 : ((k.toNat : Int) == 100) = false := (byte_int k 100).trans (beq_eq_false_iff_ne.2 h100)
 have e80 : ((k.toNat : Int) == 80) = false := (byte_int k 80).trans (beq_eq_false_iff_ne.2 h80)
 have e68 : ((k.toNat : Int) == 68) = false := (byte_int k 68).trans (beq_eq_false_iff_ne.2 h68)
 have e70 : ((k.toNat : Int) == 70) = false := (byte_int k 70).trans (beq_eq_false_iff_ne.2 h70)
 have e83 : ((k.toNat : Int) == 83) = false := (byte_int k 83).trans (beq_eq_false_iff_ne.2 h83)
 clear h110 h115 h105 h73 h101 h116 h100 h80 h68 h70 h83
 go_enter Tryz.func73, Tryz.ntmps73
 go_wp2_with fail
 go_ret
 exact ⟨rfl, rfl⟩
theorem acc_any (k : UInt8) (op : Int) (w : World) : Calls Tryz.prog 73 #[.int .u8 k.toNat, .int .i64 op] w fun e w' => e = .returned (.bool (accB k op)) ∧ w = w' := by
 by_cases h110 : k = 110
 ·subst h110; exact acc_110 op w
 by_cases h115 : k = 115
 ·subst h115; exact acc_115 op w
 by_cases h105 : k = 105
 ·subst h105; exact acc_105 op w
 by_cases h73 : k = 73
 ·subst h73; exact acc_73 op w
 by_cases h101 : k = 101
 ·subst h101; exact acc_101 op w
 by_cases h116 : k = 116
 ·subst h116; exact acc_116 op w
 by_cases h100 : k = 100
 ·subst h100; exact acc_100 op w
 by_cases h80 : k = 80
 ·subst h80; exact acc_80 op w
 by_cases h68 : k = 68
 ·subst h68; exact acc_68 op w
 by_cases h70 : k = 70
 ·subst h70; exact acc_70 op w
 by_cases h83 : k = 83
 ·subst h83; exact acc_83 op w
 have e : accB k op = false := by unfold accB; simp only [h110, h115, h105, h73, h101, h116, h100, h80, h68, h70, h83, or_self, if_false]
 rw [e]
 exact acc_none k op w h110 h115 h105 h73 h101 h116 h100 h80 h68 h70 h83
theorem acc_is (k : UInt8) (op : Int) (b : Bool) (H : Hid (accB k op = b)) (w : World) : Calls Tryz.prog 73 #[.int .u8 k.toNat, .int .i64 op] w fun e w' => e = .returned (.bool b) ∧ w = w' := by
 have := acc_any k op w
 rw [H.out] at this
 exact this
theorem isBlk_is (k : UInt8) (b : Bool) (H : Hid (blkB k = b)) (w : World) : Calls Tryz.prog 121 #[.int .u8 k.toNat] w fun e w' => e = .returned (.bool b) ∧ w = w' := by
 have := isBlk_any k w
 rw [H.out] at this
 exact this
theorem isList_is (k : UInt8) (b : Bool) (H : Hid (listB k = b)) (w : World) : Calls Tryz.prog 157 #[.int .u8 k.toNat] w fun e w' => e = .returned (.bool b) ∧ w = w' := by
 have := isList_any k w
 rw [H.out] at this
 exact this
end Go.Proofs.YtnicnfchkdmieaaGreatDoor
