/- ValueComparison: the walk. -/
import Derived.Test.YteifmjhkedhomaaVs
namespace Go.Proofs.Yteifmjhkedhomaa
open Go.RowKit
set_option linter.unusedVariables false
attribute [local go_sem] ByteArray.mk_append_mk bs_get bs_cut bs_end conv1 conv2

theorem bl_tri : ∀ x y : List UInt8, Op.bytesLess y x = (!Op.bytesLess x y && !(x == y))
  | [], [] => by simp [Op.bytesLess]
  | _ :: _, [] => by simp [Op.bytesLess]
  | [], _ :: _ => by simp [Op.bytesLess]
  | a :: x, b :: y => by
    have ih := bl_tri x y
    rw [Op.bytesLess, Op.bytesLess, ih]
    by_cases h1 : a < b
    · have h2 : ¬ b < a := by intro h; exact absurd (UInt8.lt_trans h1 h) (UInt8.lt_irrefl _)
      have h3 : ¬ a = b := by intro h; rw [h] at h1; exact UInt8.lt_irrefl _ h1
      have h4 : ¬ b = a := fun h => h3 h.symm
      simp [h1, h2, h4]
    · by_cases h2 : a = b
      · subst h2
        simp [UInt8.lt_irrefl]
      · have h3 : b < a := by
          rcases UInt8.lt_or_lt_of_ne h2 with h | h
          · exact absurd h h1
          · exact h
        have h4 : ¬ b = a := fun h => h2 h.symm
        simp [h1, h2, h3]
theorem bl_irr (x y : List UInt8) (h : (x == y) = true) : Op.bytesLess x y = false := by
  have e : x = y := by simpa using h
  subst e
  have := bl_tri x x
  cases hb : Op.bytesLess x x
  · rfl
  · rw [hb] at this; simp at this
/-- What the two tests come to. -/
def lessK (k n1 : Int) (s1 : List UInt8) (n2 : Int) (s2 : List UInt8) : Bool := if k = 1 then decide (n1 < n2) else Op.bytesLess s1 s2
def eqK (k n1 : Int) (s1 : List UInt8) (n2 : Int) (s2 : List UInt8) : Bool := if k = 1 then n1 == n2 else s1 == s2
theorem lessK_not {k n1 : Int} {s1 : List UInt8} {n2 : Int} {s2 : List UInt8} (h : eqK k n1 s1 n2 s2 = true) : lessK k n1 s1 n2 s2 = false := by
  unfold eqK lessK at *
  split at h
  · rw [if_pos (by assumption)]; simp at h ⊢; omega
  · rw [if_neg (by assumption)]; exact bl_irr _ _ h
theorem lessK_back (k n1 : Int) (s1 : List UInt8) (n2 : Int) (s2 : List UInt8) : lessK k n2 s2 n1 s1 = (!lessK k n1 s1 n2 s2 && !eqK k n1 s1 n2 s2) := by
  unfold lessK eqK
  split
  · rw [less_gt]
  · exact bl_tri _ _
theorem cvK_same {K n : Int} {s : List UInt8} (hk : K = 1 ∨ K = 2 ∨ K = 3) (hv : validV K s = true) : (cvK K n s K).2.2 = 0 ∧ (K = 1 → (cvK K n s K).1 = n) ∧ (K ≠ 1 → (cvK K n s K).2.1 = s) := by
  unfold cvK
  rw [if_neg (by rw [hv]; decide)]
  rcases hk with rfl | rfl | rfl
  · simp [intV_int]
  · simp [strOfV, hv]
  · simp [bufV, hv]
theorem bin_cmp (op K n1 : Int) (s1 : List UInt8) (n2 : Int) (s2 : List UInt8) (hk : K = 1 ∨ K = 2 ∨ K = 3) (hv1 : validV K s1 = true) (hv2 : validV K s2 = true) (ho : 72 ≤ op) (ho2 : op ≤ 74) :
    binV op K n1 s1 K n2 s2 = (valV 1 (topB (cmpB op (lessK K n1 s1 n2 s2) (eqK K n1 s1 n2 s2))) [] 0, 0) := by
  obtain ⟨h1, h2, h3⟩ := @cvK_same K n2 s2 hk hv2
  unfold binV
  rw [if_neg (by rw [hv1]; decide), if_neg (by rw [hv2]; decide), if_neg (by omega), if_neg (by omega), if_neg (fun h => h hk), if_neg (by rw [h1]; simp)]
  unfold pairV
  rw [if_neg (by omega)]
  unfold cmpT lessK eqK
  by_cases hK : K = 1
  · rw [h2 hK]; simp [hK]
  · rw [h3 hK]; simp [hK]
/-- The value of a Bool. -/
abbrev bV (b : Bool) : Obj := vObj 1 (topB b) [] 0
theorem topB_true : topB true = 18446744073709551615 := rfl
theorem topB_false : topB false = 0 := rfl
/-- How many of the first j are true. -/
def cntB (b1 b2 b3 : Bool) : Nat → Int
  | 0 => 0
  | 1 => if b1 then 1 else 0
  | 2 => (if b1 then 1 else 0) + (if b2 then 1 else 0)
  | _ => (if b1 then 1 else 0) + (if b2 then 1 else 0) + (if b3 then 1 else 0)
theorem cnt_one {L E : Bool} (h : E = true → L = false) : cntB E L (!L && !E) 3 = 1 := by
  cases E <;> cases L <;> simp [cntB] at h ⊢
end Go.Proofs.Yteifmjhkedhomaa
