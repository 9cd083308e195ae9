/- help.Mod: the walk. -/
import Derived.Test.YtnicnfchkdmieaaGreatDoorBs
namespace Go.Proofs.YtnicnfchkdmieaaGreatDoor
open Go.RowKit

/-- What Mod returns. -/
def modV (v n : Int) : Int := (IntKind.u64.wrap v) % n
theorem modV_nonneg (v n : Int) (hn : 0 < n) : 0 ≤ modV v n := Int.emod_nonneg _ (by omega)
theorem modV_lt (v n : Int) (hn : 0 < n) : modV v n < n := Int.emod_lt_of_pos _ hn
theorem u64_nonneg (v : Int) : 0 ≤ IntKind.u64.wrap v := by
  unfold IntKind.wrap
  simp [IntKind.signed, IntKind.bits]
  exact Int.emod_nonneg _ (by decide)
theorem modV_is (v n : Int) (hn : 0 < n) (hn2 : n ≤ 9223372036854775807) : wrap64 ((IntKind.u64.wrap v).tmod n) = modV v n := by
  have h1 := modV_nonneg v n hn
  have h2 := modV_lt v n hn
  rw [Int.tmod_eq_emod_of_nonneg (u64_nonneg v)]
  exact IntWalk.wrap64_in _ ⟨by unfold modV at *; omega, by unfold modV at *; omega⟩
theorem mod_any (v n : Int) (w : World) (hn : 0 < n) (hn2 : n ≤ 9223372036854775807) : Calls Tryz.prog 14 #[.int .i64 v, .int .i64 n] w fun e w' => e = .returned (.int .i64 (modV v n)) ∧ w = w' := by
  have HM := Lib.hid (modV_is v n hn hn2)
  have hw1 : IntKind.u64.wrap n = n := IntWalk.u64_in _ (by omega)
  go_enter Tryz.func14, Tryz.ntmps14
  go_wp2_with fail
  go_ret
  exact ⟨by rw [← HM.out]; rfl, rfl⟩
end Go.Proofs.YtnicnfchkdmieaaGreatDoor
