/- ValueRoundTrip's walk at every number that the parameter's type allows. -/
import Derived.Test.YteifmjhkedhomaaDoorUt
import Derived.Test.YteifmjhkedhomaaDoorUm
namespace Go.Proofs.YteifmjhkedhomaaDoor
open Go.RowKit
theorem law_round0 (a : Int) (w : World) (h0 : 0 ≤ a) (h1 : a ≤ 18446744073709551615) (hTP : TP w) :
    Calls Tryd.prog 4 #[.int .u64 a] w fun e w' => e = .returned (.bool true) ∧ Below w.heap.size w w' := by
  obtain ⟨n, rfl⟩ : ∃ n : Nat, a = n := ⟨a.toNat, by omega⟩
  exact law_round n w (by omega) hTP
end Go.Proofs.YteifmjhkedhomaaDoor
