/- hexDigits, FormatInt, Quote of the reference: the walks. -/
import Derived.Test.YtnicnfchkdmieaaDoorBs
import Derived.Laws.BitsAllLaws
import Derived.Laws.BitsLemmas
import Derived.IntWalk
namespace Go.Proofs.YtnicnfchkdmieaaDoor
open Go.RowKit
set_option linter.unusedVariables false
set_option linter.unusedSimpArgs false
attribute [local go_sem] ByteArray.mk_append_mk bs_get bs_cut bs_end

def hexTab : List UInt8 := [48, 49, 50, 51, 52, 53, 54, 55, 56, 57, 65, 66, 67, 68, 69, 70]
def hexC (d : Nat) : UInt8 := hexTab.getD d 48
/-- The digits of v, none for 0. -/
def hexP (v : Nat) : List UInt8 := if h : v = 0 then [] else hexP (v / 16) ++ [hexC (v % 16)]
termination_by v
decreasing_by omega
/-- The digits of v. -/
def hexU (v : Nat) : List UInt8 := hexP (v / 16) ++ [hexC (v % 16)]
theorem hexP_zero : hexP 0 = [] := by rw [hexP]; rfl
theorem hexP_pos {v : Nat} (h : v ≠ 0) : hexP v = hexP (v / 16) ++ [hexC (v % 16)] := by rw [hexP, dif_neg h]
theorem hex_cut (m : Nat) (h : m < 16) : List.take 1 (List.drop m hexTab) = [hexC m] := by
  have : ∀ m : Fin 16, List.take 1 (List.drop m.val hexTab) = [hexC m.val] := by decide +kernel
  exact this ⟨m, h⟩
theorem and15 (v : Nat) (h : v ≤ 18446744073709551615) : bits .and .u64 (v : Int) 15 = ((v % 16 : Nat) : Int) := by
  have := u64_and_nat v 15 (by omega) (by omega)
  rw [show ((15 : Nat) : Int) = 15 from rfl] at this
  rw [this, show (15 : Nat) = 2 ^ 4 - 1 from rfl, Nat.and_two_pow_sub_one_eq_mod]
/-- The literal of an integer. -/
def fmtI (v : Nat) : List UInt8 := if v < 10 then hexU v else 48 :: 120 :: hexU v
theorem hexP_len : ∀ (k v : Nat), v < 16 ^ k → (hexP v).length ≤ k
  | 0, v, h => by
    have : v = 0 := by simp at h; exact h
    subst this; rw [hexP_zero]; simp
  | k + 1, v, h => by
    by_cases h0 : v = 0
    · subst h0; rw [hexP_zero]; simp
    · rw [hexP_pos h0, List.length_append]
      have := hexP_len k (v / 16) (by rw [Nat.pow_succ] at h; omega)
      simp; omega
theorem hexU_len {v : Nat} (h : v ≤ 18446744073709551615) : (hexU v).length ≤ 16 := by
  unfold hexU
  rw [List.length_append]
  have e : (16 : Nat) ^ 15 = 1152921504606846976 := by decide
  have := hexP_len 15 (v / 16) (by omega)
  simp; omega
theorem fmtI_len {v : Nat} (h : v ≤ 18446744073709551615) : (fmtI v).length ≤ 18 := by
  have := hexU_len h
  unfold fmtI
  split
  · omega
  · simp only [List.length_cons]; omega
/-- One byte of a string literal. -/
def quoC (c : UInt8) : List UInt8 :=
  if c = 34 ∨ c = 92 then [92, c] else if 32 ≤ c.toNat ∧ c.toNat ≤ 126 then [c] else if c.toNat < 16 then 92 :: 120 :: 48 :: hexU c.toNat else 92 :: 120 :: hexU c.toNat
/-- The literal of a string, to place k. -/
def quoK (v : List UInt8) (k : Nat) : List UInt8 := 34 :: (v.take k).flatMap quoC
def quoL (v : List UInt8) : List UInt8 := quoK v v.length ++ [34]
theorem quoK_succ {v : List UInt8} {k : Nat} (h : k < v.length) : quoK v (k + 1) = quoK v k ++ quoC v[k] := by
  unfold quoK
  rw [List.take_succ_eq_append_getElem h, List.flatMap_append]
  simp
theorem quoC_len (c : UInt8) : (quoC c).length ≤ 19 := by
  have hc := c.toNat_lt
  have := hexU_len (v := c.toNat) (by omega)
  unfold quoC
  split
  · simp
  · split
    · simp
    · split
      · simp only [List.length_cons]; omega
      · simp only [List.length_cons]; omega
theorem byte_cases' (b d : UInt8) (n : Int) (hn : (d.toNat : Int) = n) : (b = d ∧ ((b.toNat : Int) == n) = true) ∨ (b ≠ d ∧ ((b.toNat : Int) == n) = false) := by
  subst hn
  by_cases h : b = d
  · left; subst h; exact ⟨rfl, by simp⟩
  · right; exact ⟨h, by rw [beq_eq_false_iff_ne]; intro e; exact h (UInt8.toNat_inj.1 (by omega))⟩
theorem take_one {s : List UInt8} {k : Nat} (h : k < s.length) : List.take 1 (List.drop k s) = [s[k]] := by
  rw [List.drop_eq_getElem_cons h]; rfl
end Go.Proofs.YtnicnfchkdmieaaDoor
