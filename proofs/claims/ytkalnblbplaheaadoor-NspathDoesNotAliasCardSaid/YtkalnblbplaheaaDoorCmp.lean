/- Comparison of lists: plain laws. -/
import Derived.Test.YtkalnblbplaheaaDoorBs
namespace Go.Proofs.YtkalnblbplaheaaDoor
open Go.RowKit

/-- A three-way comparison that orders. -/
structure CmpLaw {α : Type} (c : α → α → Int) : Prop where
  symm : ∀ a b, c a b = -c b a
  eq : ∀ a b, c a b = 0 ↔ a = b
  trans : ∀ a b d, c a b ≤ 0 → c b d ≤ 0 → c a d ≤ 0
  three : ∀ a b, c a b = -1 ∨ c a b = 0 ∨ c a b = 1
/-- Lists, element by element. -/
def lexC {α : Type} (c : α → α → Int) : List α → List α → Int
  | [], [] => 0
  | [], _ :: _ => -1
  | _ :: _, [] => 1
  | a :: x, b :: y => if c a b = 0 then lexC c x y else c a b
theorem CmpLaw.self {α : Type} {c : α → α → Int} (h : CmpLaw c) (a : α) : c a a = 0 := (h.eq a a).2 rfl
theorem CmpLaw.strict {α : Type} {c : α → α → Int} (h : CmpLaw c) {a b d : α} (h1 : c a b < 0) (h2 : c b d ≤ 0) : c a d < 0 := by
  have h3 := h.trans a b d (by omega) h2
  have h4 : c a d ≠ 0 := by
    intro e
    have := (h.eq a d).1 e
    subst this
    have := h.symm a b
    omega
  omega
theorem CmpLaw.strict' {α : Type} {c : α → α → Int} (h : CmpLaw c) {a b d : α} (h1 : c a b ≤ 0) (h2 : c b d < 0) : c a d < 0 := by
  have h3 := h.trans a b d h1 (by omega)
  have h4 : c a d ≠ 0 := by
    intro e
    have := (h.eq a d).1 e
    subst this
    have := h.symm a b
    omega
  omega
theorem lexC_symm {α : Type} {c : α → α → Int} (h : CmpLaw c) : ∀ x y, lexC c x y = -lexC c y x
  | [], [] => rfl
  | [], _ :: _ => rfl
  | _ :: _, [] => rfl
  | a :: x, b :: y => by
    have hs := h.symm a b
    rw [lexC, lexC]
    by_cases h0 : c a b = 0
    · rw [if_pos h0, if_pos (by omega)]; exact lexC_symm h x y
    · rw [if_neg h0, if_neg (by omega)]; exact hs
theorem lexC_eq {α : Type} {c : α → α → Int} (h : CmpLaw c) : ∀ x y, lexC c x y = 0 ↔ x = y
  | [], [] => by simp [lexC]
  | [], _ :: _ => by simp [lexC]
  | _ :: _, [] => by simp [lexC]
  | a :: x, b :: y => by
    rw [lexC]
    by_cases h0 : c a b = 0
    · rw [if_pos h0, lexC_eq h x y, List.cons.injEq, (h.eq a b).1 h0]; simp
    · rw [if_neg h0]
      constructor
      · intro e; exact absurd e h0
      · intro e; injection e with e1 _; subst e1; exact absurd (h.self a) h0
theorem lexC_trans {α : Type} {c : α → α → Int} (h : CmpLaw c) : ∀ x y z, lexC c x y ≤ 0 → lexC c y z ≤ 0 → lexC c x z ≤ 0
  | [], _, [] => fun _ _ => by simp [lexC]
  | [], _, _ :: _ => fun _ _ => by simp [lexC]
  | _ :: _, [], _ => fun h1 _ => by simp [lexC] at h1
  | _ :: _, _ :: _, [] => fun _ h2 => by simp [lexC] at h2
  | a :: x, b :: y, d :: z => fun h1 h2 => by
    rw [lexC] at h1 h2 ⊢
    by_cases e1 : c a b = 0
    · have := (h.eq a b).1 e1
      subst this
      rw [if_pos e1] at h1
      by_cases e2 : c a d = 0
      · rw [if_pos e2] at h2 ⊢
        exact lexC_trans h x y z h1 h2
      · rw [if_neg e2] at h2 ⊢; exact h2
    · rw [if_neg e1] at h1
      by_cases e2 : c b d = 0
      · have := (h.eq b d).1 e2
        subst this
        rw [if_neg e1]; exact h1
      · rw [if_neg e2] at h2
        have := h.strict (a := a) (b := b) (d := d) (by omega) h2
        rw [if_neg (by omega)]; omega
theorem lexC_three {α : Type} {c : α → α → Int} (h : CmpLaw c) : ∀ x y, lexC c x y = -1 ∨ lexC c x y = 0 ∨ lexC c x y = 1
  | [], [] => by simp [lexC]
  | [], _ :: _ => by simp [lexC]
  | _ :: _, [] => by simp [lexC]
  | a :: x, b :: y => by
    rw [lexC]
    split
    · exact lexC_three h x y
    · exact h.three a b
theorem lexC_law {α : Type} {c : α → α → Int} (h : CmpLaw c) : CmpLaw (lexC c) := ⟨lexC_symm h, lexC_eq h, lexC_trans h, lexC_three h⟩
def cmpI (a b : Int) : Int := if a < b then -1 else if a > b then 1 else 0
theorem cmpI_law : CmpLaw cmpI := by
  constructor
  · intro a b; unfold cmpI; (repeat' split) <;> omega
  · intro a b; unfold cmpI; (repeat' split) <;> omega
  · intro a b d; unfold cmpI; (repeat' split) <;> omega
  · intro a b; unfold cmpI; (repeat' split) <;> simp
def cmpU (a b : UInt8) : Int := cmpI a.toNat b.toNat
theorem cmpU_law : CmpLaw cmpU := by
  constructor
  · intro a b; exact cmpI_law.symm _ _
  · intro a b
    unfold cmpU
    rw [cmpI_law.eq]
    constructor
    · intro h; exact UInt8.toNat_inj.1 (by omega)
    · rintro rfl; rfl
  · intro a b d; exact cmpI_law.trans _ _ _
  · intro a b; exact cmpI_law.three _ _
/-- Strings. -/
def cmpB : List UInt8 → List UInt8 → Int := lexC cmpU
theorem cmpB_law : CmpLaw cmpB := lexC_law cmpU_law
theorem less_cmpB : ∀ (x y : List UInt8), Op.bytesLess x y = decide (cmpB x y < 0)
  | [], [] => by simp [Op.bytesLess, cmpB, lexC]
  | _ :: _, [] => by simp [Op.bytesLess, cmpB, lexC]
  | [], _ :: _ => by simp [Op.bytesLess, cmpB, lexC]
  | a :: x, b :: y => by
    have ih := less_cmpB x y
    unfold cmpB at ih ⊢
    rw [Op.bytesLess, ih, lexC]
    have hl : (decide (a < b)) = decide (cmpU a b < 0) := by
      unfold cmpU cmpI
      rw [decide_eq_decide, UInt8.lt_iff_toNat_lt]
      (repeat' split) <;> omega
    have he : (a == b) = decide (cmpU a b = 0) := by
      rw [Bool.eq_iff_iff]; simp [cmpU_law.eq]
    rw [hl, he]
    by_cases h0 : cmpU a b = 0
    · rw [if_pos h0]; simp [h0]
    · rw [if_neg h0]; simp [h0]
theorem eq_cmpB (x y : List UInt8) : (x == y) = decide (cmpB x y = 0) := by
  rw [Bool.eq_iff_iff]; simp [cmpB_law.eq]
/-- Lists of strings. -/
def cmpL : List (List UInt8) → List (List UInt8) → Int := lexC cmpB
theorem cmpL_law : CmpLaw cmpL := lexC_law cmpB_law
def cmpR (a b : Bool) : Int := if a = b then 0 else if b = true then -1 else 1
theorem cmpR_law : CmpLaw cmpR := by
  constructor
  · intro a b; cases a <;> cases b <;> rfl
  · intro a b; cases a <;> cases b <;> simp [cmpR]
  · intro a b d; cases a <;> cases b <;> cases d <;> simp [cmpR]
  · intro a b; cases a <;> cases b <;> simp [cmpR]
/-- One ahead of the other. -/
def thenC {α β : Type} (c : α → α → Int) (d : β → β → Int) (a b : α × β) : Int := if c a.1 b.1 = 0 then d a.2 b.2 else c a.1 b.1
theorem thenC_law {α β : Type} {c : α → α → Int} {d : β → β → Int} (h : CmpLaw c) (k : CmpLaw d) : CmpLaw (thenC c d) := by
  constructor
  · intro a b
    have := h.symm a.1 b.1
    unfold thenC
    by_cases h0 : c a.1 b.1 = 0
    · rw [if_pos h0, if_pos (by omega)]; exact k.symm _ _
    · rw [if_neg h0, if_neg (by omega)]; exact this
  · intro a b
    unfold thenC
    obtain ⟨a1, a2⟩ := a
    obtain ⟨b1, b2⟩ := b
    simp only [Prod.mk.injEq]
    by_cases h0 : c a1 b1 = 0
    · rw [if_pos h0, k.eq]; simp [(h.eq a1 b1).1 h0]
    · rw [if_neg h0]
      constructor
      · intro e; exact absurd e h0
      · rintro ⟨e, _⟩; subst e; exact absurd (h.self a1) h0
  · intro a b e h1 h2
    unfold thenC at h1 h2 ⊢
    by_cases e1 : c a.1 b.1 = 0
    · have e1' := (h.eq _ _).1 e1
      rw [if_pos e1] at h1
      rw [e1']
      by_cases e2 : c b.1 e.1 = 0
      · rw [if_pos e2] at h2 ⊢
        exact k.trans _ _ _ h1 h2
      · rw [if_neg e2] at h2 ⊢; exact h2
    · rw [if_neg e1] at h1
      by_cases e2 : c b.1 e.1 = 0
      · rw [← (h.eq _ _).1 e2, if_neg e1]; exact h1
      · rw [if_neg e2] at h2
        have := h.strict (a := a.1) (b := b.1) (d := e.1) (by omega) h2
        rw [if_neg (by omega)]; omega
  · intro a b
    unfold thenC
    split
    · exact k.three _ _
    · exact h.three _ _
/-- Paths. -/
def cmpP (r1 : Bool) (u1 : Int) (l1 : List (List UInt8)) (r2 : Bool) (u2 : Int) (l2 : List (List UInt8)) : Int := thenC cmpR (thenC cmpI cmpL) (r1, u1, l1) (r2, u2, l2)
theorem cmpP_law : CmpLaw (thenC cmpR (thenC cmpI cmpL)) := thenC_law cmpR_law (thenC_law cmpI_law cmpL_law)
theorem cmpL_step {l1 l2 : List (List UInt8)} {k : Nat} (h1 : k < l1.length) (h2 : k < l2.length) : cmpL (l1.drop k) (l2.drop k) = if cmpB l1[k] l2[k] = 0 then cmpL (l1.drop (k + 1)) (l2.drop (k + 1)) else cmpB l1[k] l2[k] := by
  rw [List.drop_eq_getElem_cons h1, List.drop_eq_getElem_cons h2]
  rfl
theorem cmpL_short {l1 l2 : List (List UInt8)} {k : Nat} (h1 : k = l1.length) (h2 : k < l2.length) : cmpL (l1.drop k) (l2.drop k) = -1 := by
  rw [List.drop_eq_nil_of_le (by omega), List.drop_eq_getElem_cons h2]
  rfl
theorem cmpL_long {l1 l2 : List (List UInt8)} {k : Nat} (h1 : k < l1.length) (h2 : k = l2.length) : cmpL (l1.drop k) (l2.drop k) = 1 := by
  have e : l2.drop k = [] := List.drop_eq_nil_of_le (by omega)
  rw [List.drop_eq_getElem_cons h1, e]
  rfl
theorem cmpL_both {l1 l2 : List (List UInt8)} {k : Nat} (h1 : k = l1.length) (h2 : k = l2.length) : cmpL (l1.drop k) (l2.drop k) = 0 := by
  rw [List.drop_eq_nil_of_le (by omega), List.drop_eq_nil_of_le (by omega)]
  rfl
end Go.Proofs.YtkalnblbplaheaaDoor
