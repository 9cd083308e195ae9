/- integer of the reference: the walk. -/
import Derived.Test.YtnicnfchkdmieaaDoorTkg
namespace Go.Proofs.YtnicnfchkdmieaaDoor
open Go.RowKit
set_option linter.unusedVariables false
set_option linter.unusedSimpArgs false
attribute [local go_sem] ByteArray.mk_append_mk bs_get bs_cut bs_end

theorem byte_is {s : List UInt8} {k : Nat} (h : k < s.length) (d : UInt8) (b : Bool) (hb : decide (s[k] = d) = b) : ((s[k].toNat : Int) == (d.toNat : Int)) = b := by
  rw [byte_eq, ← hb, Bool.eq_iff_iff, beq_iff_eq, decide_eq_true_eq]; exact eq_comm
theorem hexLit_short {s : List UInt8} (h : s.length < 3) : hexLit s = false := by
  unfold hexLit
  split
  · next c r => simp only [List.length_cons] at h; omega
  · rfl
theorem hexLit_long {s : List UInt8} (h : 3 ≤ s.length) : hexLit s = (decide (s[0] = 48) && decide (s[1] = 120)) := by
  match s, h with
  | a :: b :: c :: r, _ =>
    simp only [List.getElem_cons_zero, List.getElem_cons_succ]
    unfold hexLit
    split
    · next heq => injection heq with h1 h2; injection h2 with h2 h3; subst h1 h2; rfl
    · next hn =>
      by_cases h1 : a = 48
      · by_cases h2 : b = 120
        · subst h1 h2
          exact absurd rfl (hn c r)
        · simp [h2]
      · simp [h1]
theorem hexI_some {c : UInt8} {x : Nat} (h : hexV c = some x) : hexI c = x := by unfold hexI; rw [h]
theorem hexI_none {c : UInt8} (h : hexV c = none) : hexI c = -1 := by unfold hexI; rw [h]
end Go.Proofs.YtnicnfchkdmieaaDoor
