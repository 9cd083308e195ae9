/- letter, digit, identifier, lower, Segment of the reference: the walks. -/
import Derived.Test.YtnicnfchkdmieaaDoorBs
namespace Go.Proofs.YtnicnfchkdmieaaDoor
open Go.RowKit
attribute [local go_sem] ByteArray.mk_append_mk bs_get bs_cut bs_end

def letterB (c : UInt8) : Bool := decide ((97 ≤ c.toNat ∧ c.toNat ≤ 122) ∨ (65 ≤ c.toNat ∧ c.toNat ≤ 90) ∨ c.toNat = 95)
def digitB (c : UInt8) : Bool := decide (48 ≤ c.toNat ∧ c.toNat ≤ 57)
def idB (c : UInt8) : Bool := letterB c || digitB c
def smallB (c : UInt8) : Bool := decide (97 ≤ c.toNat ∧ c.toNat ≤ 122)
def lowerB (s : List UInt8) : Bool := s.any smallB
/-- The index behind the identifier at i. -/
def idEnd (s : List UInt8) (i : Nat) : Nat := i + ((s.drop i).takeWhile idB).length
def segB : List UInt8 → Bool
  | [] => false
  | c :: r => decide (r.length ≤ 3) && letterB c && (c :: r).all idB && !lowerB (c :: r)
theorem boolOf {a b : Bool} (h : a = b) : Ending.returned (.bool a) = .returned (.bool b) := by rw [h]

theorem idEnd_at (s : List UInt8) (i : Nat) (h : i < s.length) : idEnd s i = if idB s[i] = true then idEnd s (i + 1) else i := by
  unfold idEnd
  rw [List.drop_eq_getElem_cons h, List.takeWhile_cons]
  split
  · rw [List.length_cons]; omega
  · rfl
theorem idEnd_out (s : List UInt8) (i : Nat) (h : s.length ≤ i) : idEnd s i = i := by
  unfold idEnd
  rw [List.drop_eq_nil_of_le h]; rfl
theorem idEnd_le (s : List UInt8) (i : Nat) (h : i ≤ s.length) : idEnd s i ≤ s.length := by
  unfold idEnd
  have := (List.takeWhile_sublist (l := s.drop i) idB).length_le
  rw [List.length_drop] at this
  omega
theorem idEnd_ge (s : List UInt8) (i : Nat) : i ≤ idEnd s i := Nat.le_add_right _ _
theorem idEnd_all (s : List UInt8) : idEnd s 0 = s.length ↔ s.all idB = true := by
  unfold idEnd
  rw [List.drop_zero, Nat.zero_add]
  induction s with
  | nil => simp
  | cons c r ih =>
    rw [List.takeWhile_cons, List.all_cons]
    by_cases h : idB c = true
    · rw [if_pos h, List.length_cons, List.length_cons, h, Bool.true_and, ← ih]; omega
    · rw [if_neg h]
      simp at h
      simp [h]
theorem segB_long {c : UInt8} {r : List UInt8} (h : ¬ r.length ≤ 3) : segB (c :: r) = false := by
  rw [segB, decide_eq_false h]; rfl
theorem segB_letter {c : UInt8} {r : List UInt8} (h : letterB c = false) : segB (c :: r) = false := by
  rw [segB, h]; simp
theorem segB_id {c : UInt8} {r : List UInt8} (h : ¬ idEnd (c :: r) 0 = (c :: r).length) : segB (c :: r) = false := by
  rw [segB]
  rw [idEnd_all] at h
  rw [show (c :: r).all idB = false by simpa using h]; simp
theorem segB_rest {c : UInt8} {r : List UInt8} (h0 : r.length ≤ 3) (h1 : letterB c = true) (h : idEnd (c :: r) 0 = (c :: r).length) : segB (c :: r) = !lowerB (c :: r) := by
  rw [segB]
  rw [idEnd_all] at h
  rw [h, h1, decide_eq_true h0]; rfl
end Go.Proofs.YtnicnfchkdmieaaDoor
