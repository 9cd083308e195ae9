/- skip of the reference: the walk. -/
import Derived.Test.YtnicnfchkdmieaaDoorTkl
namespace Go.Proofs.YtnicnfchkdmieaaDoor
open Go.RowKit
set_option linter.unusedVariables false
set_option linter.unusedSimpArgs false
attribute [local go_sem] ByteArray.mk_append_mk bs_get bs_cut bs_end

theorem line_at {s : List UInt8} {q : Nat} (h : q < s.length) : (s.drop q).dropWhile (· != 10) = if s[q] = 10 then s.drop q else (s.drop (q + 1)).dropWhile (· != 10) := by
  rw [List.drop_eq_getElem_cons h, List.dropWhile_cons]
  by_cases e : s[q] = 10
  · rw [if_pos e, if_neg (by rw [e]; decide)]
  · rw [if_neg e, if_pos (by rw [bne, beq_eq_false_iff_ne.2 e]; rfl)]
theorem close_short {s : List UInt8} (h : s.length ≤ 1) : closeL s = none := by
  match s, h with
  | [], _ => rfl
  | [a], _ =>
    rw [closeL]
    · rfl
    · intro r h1 h2; cases h2
theorem close_at {s : List UInt8} {q : Nat} (h : q + 1 < s.length) : closeL (s.drop q) = if s[q] = 42 ∧ s[q + 1] = 47 then some (s.drop (q + 2)) else closeL (s.drop (q + 1)) := by
  rw [List.drop_eq_getElem_cons (i := q) (by omega), List.drop_eq_getElem_cons (i := q + 1) h]
  by_cases e : s[q] = 42 ∧ s[q + 1] = 47
  · rw [if_pos e, e.1, e.2, closeL]
  · rw [if_neg e, closeL]
    intro r h1 h2
    injection h2 with h2 _
    exact e ⟨h1, h2⟩
theorem skip_at_line {s : List UInt8} {p : Nat} (h : p + 1 < s.length) (h1 : s[p] = 47) (h2 : s[p + 1] = 47) : skipL (s.drop p) = skipL ((s.drop p).dropWhile (· != 10)) := by
  rw [List.drop_eq_getElem_cons (i := p) (by omega), List.drop_eq_getElem_cons (i := p + 1) h, h1, h2, skipL_line]
theorem skip_at_block {s : List UInt8} {p : Nat} (h : p + 1 < s.length) (h1 : s[p] = 47) (h2 : s[p + 1] = 42) : skipL (s.drop p) = match closeL (s.drop (p + 2)) with
    | some t => skipL t
    | none => (s.drop p, false) := by
  rw [List.drop_eq_getElem_cons (i := p) (by omega), List.drop_eq_getElem_cons (i := p + 1) h, h1, h2]
  split
  · next t ht => exact skipL_block ht
  · next ht => exact skipL_open ht
theorem skip_at_stop {s : List UInt8} {p : Nat} (h : p < s.length) (hb : blankB s[p] = false) (h2 : ∀ k : p + 1 < s.length, s[p] = 47 → s[p + 1] ≠ 47 ∧ s[p + 1] ≠ 42) : skipL (s.drop p) = (s.drop p, true) := by
  rw [List.drop_eq_getElem_cons h]
  refine skipL_stop hb fun e t => ?_
  by_cases k : p + 1 < s.length
  · obtain ⟨n1, n2⟩ := h2 k e
    rw [List.drop_eq_getElem_cons k]
    exact ⟨fun h => by injection h with h _; exact n1 h, fun h => by injection h with h _; exact n2 h⟩
  · rw [List.drop_eq_nil_of_le (by omega)]
    exact ⟨fun h => (by cases h), fun h => (by cases h)⟩
def blockS (o : Option (List UInt8)) (d : List UInt8) : List UInt8 × Bool := match o with
  | some t => skipL t
  | none => (d, false)
end Go.Proofs.YtnicnfchkdmieaaDoor
