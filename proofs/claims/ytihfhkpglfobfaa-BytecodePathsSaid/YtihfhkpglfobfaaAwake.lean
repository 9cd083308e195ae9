/- The sanity check of the statements returns true. -/
import Derived.Test.YtihfhkpglfobfaaLens
namespace Go.Proofs.Ytihfhkpglfobfaa
open Go.RowKit
attribute [local go_sem] conv1 conv2 ByteArray.mk_append_mk get_mk cut_mk

theorem awake_int (w : World) : Calls Try.prog 11 #[.string ⟨#[11, 44, 1]⟩] w fun e w' => e = .returned (.tuple #[.int .u64 300, .int .i64 3, .int .i64 0]) ∧ w = w' :=
  int_any [11, 44, 1] w (by decide)
theorem awake_append (w : World) : Calls Try.prog 10 #[.string ⟨#[120]⟩, .int .u64 300] w fun e w' => e = .returned (.string ⟨[120, 11, 44, 1].toArray⟩) ∧ Below w.heap.size w w' :=
  appendInt_any [120] 300 w (by decide) (by decide)
theorem awake_len62 (w : World) : Calls Try.prog 20 #[.string ⟨#[]⟩, .int .i64 62] w fun e w' => e = .returned (.string ⟨[63].toArray⟩) ∧ Below w.heap.size w w' :=
  appendLength_any [] 62 w (by decide) (by decide) (by decide)
theorem awake_len63 (w : World) : Calls Try.prog 20 #[.string ⟨#[]⟩, .int .i64 63] w fun e w' => e = .returned (.string ⟨[65, 4].toArray⟩) ∧ Below w.heap.size w w' :=
  appendLength_any [] 63 w (by decide) (by decide) (by decide)

set_option maxHeartbeats 1000000 in
theorem awake_any (w : World) : Calls Try.prog 13 #[] w fun e w' => e = .returned (.bool true) ∧ Below w.heap.size w w' := by
  go_enter Try.func13, Try.ntmps13
  go_wp2_with fail
  refine (awake_int _).mono ?_
  rintro e w1 ⟨rfl, rfl⟩
  go_wp2_with fail
  refine (awake_append _).mono ?_
  rintro e w1 ⟨rfl, hb1⟩
  go_wp2_with fail
  refine (awake_len62 _).mono ?_
  rintro e w2 ⟨rfl, hb2⟩
  go_wp2_with fail
  refine (awake_len63 _).mono ?_
  rintro e w3 ⟨rfl, hb3⟩
  go_wp2_with fail
  go_ret
  exact ⟨rfl, (hb1.trans (hb2.mono hb1.size)).trans (hb3.mono (Nat.le_trans hb1.size hb2.size))⟩
end Go.Proofs.Ytihfhkpglfobfaa
