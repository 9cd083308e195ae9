/- The writers of digits, parse: the walks. -/
import Derived.Test.YteifmjhkedhomaaDoorUd
import Derived.Test.YteifmjhkedhomaaDoorUc
namespace Go.Proofs.YteifmjhkedhomaaDoor
open Go.RowKit
set_option linter.unusedVariables false
set_option linter.unusedSimpArgs false
attribute [local go_sem] ByteArray.mk_append_mk bs_get bs_cut bs_end conv1 conv2

theorem u1_any (n : Nat) (w : World) (hn : n ≤ 18446744073709551615) (hT : Tz16 w) : Calls Tryd.prog 23 #[.int .u64 n] w fun e w' => e = .returned (.string ⟨([48, 120] ++ hexU n).toArray⟩) ∧ Below w.heap.size w w' := by
  have KF := Lib.hid (fmt16_any n w (Lib.hid hn) hT)
  have KU := Lib.hid (fun w => upper_any n hn w)
  have hul := hexU_len hn
  obtain ⟨U, hU⟩ : ∃ U, hexU n = U := ⟨_, rfl⟩
  obtain ⟨V, hV⟩ : ∃ U, hexLo n = U := ⟨_, rfl⟩
  rw [hU] at KU hul ⊢
  rw [hV] at KF KU
  have hc := cat0x U
  clear hU hV
  go_enter Tryd.func23, Tryd.ntmps23
  go_wp2_with fail
  ((with_reducible refine KF.out.mono ?_))
  rintro e w2 ⟨rfl, hb⟩
  have HB := Lib.hid hb
  clear hb
  go_wp2_with fail
  ((with_reducible refine (KU.out _).mono ?_))
  rintro e w3 ⟨rfl, hb⟩
  have HB3 := Lib.hid (bel_then HB.out (Nat.le_refl _) hb)
  clear hb HB
  go_wp2_with fail
  go_ret
  exact ⟨rfl, HB3.out⟩
theorem u2_any (c : UInt8) (w : World) : Calls Tryd.prog 26 #[.int .u8 c.toNat] w fun e w' => e = .returned (.string ⟨(hexG c).toArray⟩) ∧ Below w.heap.size w w' := by
  have KT := Lib.hid (twoDigits_any c w)
  unfold hexG
  rw [← digL_two] at KT
  have hl : (digL c.toNat 16 2).length ≤ 2 := by rw [digL_two, List.length_append, digC_len _ (by have := c.toNat_lt; omega), digC_len _ (Nat.mod_lt _ (by decide))]; decide
  obtain ⟨U, hU⟩ : ∃ U, digL c.toNat 16 2 = U := ⟨_, rfl⟩
  rw [hU] at KT hl ⊢
  have hc := cat0x U
  clear hU
  go_enter Tryd.func26, Tryd.ntmps26
  go_wp2_with fail
  ((with_reducible refine KT.out.mono ?_))
  rintro e w2 ⟨rfl, hb⟩
  have HB := Lib.hid hb
  clear hb
  go_wp2_with fail
  go_ret
  exact ⟨rfl, HB.out⟩
theorem u3_any (n : Nat) (w : World) (hn : n ≤ 18446744073709551615) (hT : Pow10 w) : Calls Tryd.prog 28 #[.int .u64 n] w fun e w' => e = .returned (.string ⟨(Lib.decDigits n).toArray⟩) ∧ Below w.heap.size w w' := by
  have KF := Lib.hid (fmt10_any n w (by omega) hT)
  go_enter Tryd.func28, Tryd.ntmps28
  go_wp2_with fail
  ((with_reducible refine KF.out.mono ?_))
  rintro e w2 ⟨rfl, hb⟩
  have HB := Lib.hid hb
  clear hb
  go_wp2_with fail
  go_ret
  exact ⟨rfl, HB.out⟩
theorem u4_any (c : UInt8) (w : World) (hT : Pow10 w) : Calls Tryd.prog 29 #[.int .u8 c.toNat] w fun e w' => e = .returned (.string ⟨(decG c).toArray⟩) ∧ Below w.heap.size w w' := by
  have hc := c.toNat_lt
  have KF := Lib.hid (itoa_any c.toNat w (by omega) hT)
  unfold decG
  rw [digL_dec _ (by omega)]
  go_enter Tryd.func29, Tryd.ntmps29
  go_wp2_with fail
  ((with_reducible refine KF.out.mono ?_))
  rintro e w2 ⟨rfl, hb⟩
  have HB := Lib.hid hb
  clear hb
  go_wp2_with fail
  go_ret
  exact ⟨rfl, HB.out⟩
end Go.Proofs.YteifmjhkedhomaaDoor
