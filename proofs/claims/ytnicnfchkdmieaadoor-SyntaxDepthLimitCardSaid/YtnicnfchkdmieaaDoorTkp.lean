/- item of the reference: the walks. -/
import Derived.Test.YtnicnfchkdmieaaDoorTko
namespace Go.Proofs.YtnicnfchkdmieaaDoor
open Go.RowKit
set_option linter.unusedVariables false
set_option linter.unusedSimpArgs false
attribute [local go_sem] ByteArray.mk_append_mk bs_get bs_cut bs_end

/-- What the reference's item returns. -/
def RItem (o : Option (Nat × Nat × List UInt8 × Nat)) (p : Nat) (w : World) (e : Ending) (w' : World) : Prop :=
  (∃ (a b d n : Int) (c : List UInt8), e = .returned (.tuple #[tokV a b c d, .int .i64 n]) ∧ (o = none → n = -1) ∧ ∀ x, o = some x → a = x.1 ∧ b = x.2.1 ∧ c = x.2.2.1 ∧ d = (p : Nat) ∧ n = (p + x.2.2.2 : Nat)) ∧ Below w.heap.size w w'
theorem digit_letter {c : UInt8} (h : digitB c = true) : letterB c = false := by
  unfold digitB at h
  unfold letterB
  rw [decide_eq_true_eq] at h
  rw [decide_eq_false_iff_not]
  omega
end Go.Proofs.YtnicnfchkdmieaaDoor
