/- Equal of tokens: the walk. -/
import Derived.Test.YtnicnfchkdmieaaDoorTkr
namespace Go.Proofs.YtnicnfchkdmieaaDoor
open Go.RowKit
set_option linter.unusedVariables false
set_option linter.unusedSimpArgs false
attribute [local go_sem] ByteArray.mk_append_mk bs_get bs_cut bs_end

theorem str_beq (s t : List UInt8) : ((ByteArray.mk s.toArray) == (ByteArray.mk t.toArray)) = (s == t) := by
  show ((⟨s⟩ : Array UInt8) == ⟨t⟩) = (s == t)
  simp
theorem tok_eqIn (a b d a' b' d' : Int) (s s' : List UInt8) (w : World) : (Op.equalIn 10000 46 (.agg #[.int .i64 a, .int .u64 b, .string ⟨s.toArray⟩, .int .i64 d]) (.agg #[.int .i64 a', .int .u64 b', .string ⟨s'.toArray⟩, .int .i64 d'])).run Tryd.prog w = .ok (a == a' && b == b' && s == s' && d == d') w := by
  have hS : Tryd.prog.underlying 46 = some (.struct (Tryd.prog.fieldsOf 46)) := by kernel_rfl
  have hp : Tryd.prog.stoodInHeld 46 = false := by kernel_rfl
  rw [show (10000 : Nat) = 9999 + 1 from rfl, run_equalIn_agg w 9999 46 _ _ hS hp]
  simp only [Program.fieldsOf, Tryd.underlying46]
  have u3 := Tryd.underlying3
  have u5 := Tryd.underlying39
  have u9 := Tryd.underlying9
  go_simp
  by_cases h1 : a = a' <;> by_cases h2 : b = b' <;> by_cases h3 : s = s' <;> by_cases h4 : d = d' <;> simp [h1, h2, h3, h4]
theorem tok_neq (a b d a' b' d' : Int) (s s' : List UInt8) (w : World) : (binOp .neq 46 (.agg #[.int .i64 a, .int .u64 b, .string ⟨s.toArray⟩, .int .i64 d]) (.agg #[.int .i64 a', .int .u64 b', .string ⟨s'.toArray⟩, .int .i64 d'])).run Tryd.prog w = .ok (.bool (!(a == a' && b == b' && s == s' && d == d'))) w := by
  rw [run_neq_struct, tok_eqIn]; rfl
theorem tok_same (a b d : Int) (s : List UInt8) (w : World) : (binOp .neq 46 (.agg #[.int .i64 a, .int .u64 b, .string ⟨s.toArray⟩, .int .i64 d]) (.agg #[.int .i64 a, .int .u64 b, .string ⟨s.toArray⟩, .int .i64 d])).run Tryd.prog w = .ok (.bool false) w := by
  rw [tok_neq]; simp
end Go.Proofs.YtnicnfchkdmieaaDoor
