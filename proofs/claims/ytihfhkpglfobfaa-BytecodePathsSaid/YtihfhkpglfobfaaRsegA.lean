/- The reference's segment and the code's read alike: the plain law. -/
import Derived.Test.YtihfhkpglfobfaaRseg
namespace Go.Proofs.Ytihfhkpglfobfaa
open Go.RowKit

/-- An upper-case letter or an underscore; these and digits; zero. -/
def upB (c : UInt8) : Bool := segOk c.toNat 0
def upDB (c : UInt8) : Bool := segOk c.toNat 1
theorem segB_eq (c : UInt8) (r : List UInt8) : segB (c :: r) = (decide (r.length ≤ 3) && upB c && r.all upDB) := by
  have e1 : ∀ x : UInt8, (idB x && !smallB x) = upDB x := by
    intro x
    unfold idB letterB digitB smallB upDB segOk
    rw [Bool.eq_iff_iff]
    simp only [Bool.and_eq_true, Bool.or_eq_true, decide_eq_true_eq, Bool.not_eq_true', decide_eq_false_iff_not]
    omega
  have e2 : ∀ x : UInt8, (letterB x && (idB x && !smallB x)) = upB x := by
    intro x
    unfold idB letterB digitB smallB upB segOk
    rw [Bool.eq_iff_iff]
    simp only [Bool.and_eq_true, Bool.or_eq_true, decide_eq_true_eq, Bool.not_eq_true', decide_eq_false_iff_not]
    omega
  have e3 : ∀ l : List UInt8, (l.all idB && !lowerB l) = l.all upDB := by
    intro l
    induction l with
    | nil => rfl
    | cons x t ih =>
      unfold lowerB at ih ⊢
      rw [List.all_cons, List.any_cons, List.all_cons, ← ih, ← e1]
      cases idB x <;> cases smallB x <;> cases t.all idB <;> cases t.any smallB <;> rfl
  rw [segB]
  have h := e3 r
  unfold lowerB at h ⊢
  rw [List.all_cons, List.any_cons, ← h, ← e2 c]
  cases idB c <;> cases smallB c <;> cases letterB c <;> cases r.all idB <;> cases r.any smallB <;> simp
theorem upDB_zero : upDB 0 = false := by decide
theorem next_zero (i n : Nat) (h : 0 < i) : segNext 0 i n = some n := segNext_skip rfl h
theorem next_other (c : UInt8) (i n : Nat) (hc : c ≠ 0) (h : 0 < i) : segNext c.toNat i n = if n < i then none else if upDB c = true then some (i + 1) else none := by
  have h0 : ¬ (c.toNat = 0 ∧ 0 < i) := fun ⟨h, _⟩ => hc (UInt8.toNat.inj h)
  have e : segOk c.toNat i = upDB c := by unfold upDB segOk; rw [Bool.eq_iff_iff, decide_eq_true_eq, decide_eq_true_eq]; omega
  rw [segNext, if_neg h0, e]
theorem next_first (c : UInt8) : segNext c.toNat 0 0 = if upB c = true then some 1 else none := by
  rw [segNext, if_neg (by omega), if_neg (by omega)]; rfl
theorem go_step (s : List UInt8) (f i n : Nat) (c : UInt8) (h : s[i]? = some c) : segGo s (f + 1) i n = match segNext c.toNat i n with
      | none => ([], 3)
      | some m => segGo s f (i + 1) m := by rw [segGo, h]; rfl
theorem go_stop (s : List UInt8) (f i n : Nat) (h : s[i]? = none) : segGo s (f + 1) i n = ([], 4) := by rw [segGo, h]
theorem seg_first (c : UInt8) (r : List UInt8) : rdSeg (c :: r) = if upB c = true then segGo (c :: r) 3 1 1 else ([], 3) := by
  rw [rdSeg, go_step _ _ _ _ c rfl, next_first]
  split <;> rename_i h <;> split at h <;> simp_all
theorem refSeg_eq (s : List UInt8) : refSeg s = rdSeg s := by
  match s with
  | [] => rfl
  | [a] =>
    rw [seg_first, go_stop _ _ _ _ rfl]
    simp [refSeg, findB, hitB, segB_eq]
    cases upB a <;> rfl
  | [a, b] =>
    rw [seg_first]
    by_cases hb : b = 0
    · subst hb
      rw [go_step _ _ _ _ (0 : UInt8) rfl, show (0 : UInt8).toNat = 0 from rfl, next_zero _ _ (by omega)]
      simp only
      rw [go_stop _ _ _ _ rfl]
      simp [refSeg, findB, hitB, segB_eq]
      cases upB a <;> rfl
    · rw [go_step _ _ _ _ b rfl, next_other b _ _ hb (by omega)]
      simp [refSeg, findB, hitB, segB_eq, hb]
      cases upB a <;> cases upDB b <;> simp [segGo]
  | [a, b, c] =>
    rw [seg_first]
    by_cases hb : b = 0
    · subst hb
      rw [go_step _ _ _ _ (0 : UInt8) rfl, show (0 : UInt8).toNat = 0 from rfl, next_zero _ _ (by omega)]
      simp only
      by_cases hc : c = 0
      · subst hc
        rw [go_step _ _ _ _ (0 : UInt8) rfl, show (0 : UInt8).toNat = 0 from rfl, next_zero _ _ (by omega)]
        simp only
        rw [go_stop _ _ _ _ rfl]
        simp [refSeg, findB, hitB, segB_eq, upDB_zero]
        cases upB a <;> rfl
      · rw [go_step _ _ _ _ c rfl, next_other c _ _ hc (by omega)]
        simp [refSeg, findB, hitB, segB_eq, hc, upDB_zero]
    · rw [go_step _ _ _ _ b rfl, next_other b _ _ hb (by omega)]
      by_cases hc : c = 0
      · subst hc
        simp [refSeg, findB, hitB, segB_eq, hb, upDB_zero]
        cases upB a <;> cases upDB b <;> simp [segGo, segNext]
      · simp [refSeg, findB, hitB, segB_eq, hb, hc]
        cases upB a <;> cases hb' : upDB b <;> simp
        rw [go_step _ _ _ _ c rfl, next_other c _ _ hc (by omega)]
        cases upDB c <;> simp [segGo]
  | a :: b :: c :: d :: t =>
    rw [seg_first]
    have h4 : 4 ≤ (a :: b :: c :: d :: t).length := by simp
    rw [refSeg, if_pos h4]
    by_cases hb : b = 0
    · subst hb
      rw [go_step _ _ _ _ (0 : UInt8) rfl, show (0 : UInt8).toNat = 0 from rfl, next_zero _ _ (by omega)]
      simp only
      by_cases hc : c = 0
      · subst hc
        rw [go_step _ _ _ _ (0 : UInt8) rfl, show (0 : UInt8).toNat = 0 from rfl, next_zero _ _ (by omega)]
        simp only
        by_cases hd : d = 0
        · subst hd
          rw [go_step _ _ _ _ (0 : UInt8) rfl, show (0 : UInt8).toNat = 0 from rfl, next_zero _ _ (by omega)]
          simp [findB, hitB, segB_eq, upDB_zero, segGo]
          cases upB a <;> rfl
        · rw [go_step _ _ _ _ d rfl, next_other d _ _ hd (by omega)]
          simp [findB, hitB, segB_eq, upDB_zero, hd]
      · rw [go_step _ _ _ _ c rfl, next_other c _ _ hc (by omega)]
        simp [findB, hitB, segB_eq, hc, upDB_zero]
    · rw [go_step _ _ _ _ b rfl, next_other b _ _ hb (by omega)]
      by_cases hc : c = 0
      · subst hc
        by_cases hd : d = 0
        · subst hd
          simp [findB, hitB, segB_eq, hb, upDB_zero]
          cases upB a <;> cases upDB b <;> simp [segGo, segNext]
        · simp [findB, hitB, segB_eq, hb, hd, upDB_zero]
          cases upB a <;> cases hb' : upDB b <;> simp
          rw [go_step _ _ _ _ (0 : UInt8) rfl, show (0 : UInt8).toNat = 0 from rfl, next_zero _ _ (by omega)]
          simp only
          rw [go_step _ _ _ _ d rfl, next_other d _ _ hd (by omega)]
          simp
      · by_cases hd : d = 0
        · subst hd
          simp [findB, hitB, segB_eq, hb, hc, upDB_zero]
          cases upB a <;> cases hb' : upDB b <;> simp
          rw [go_step _ _ _ _ c rfl, next_other c _ _ hc (by omega)]
          cases upDB c <;> simp [segGo, segNext]
        · simp [findB, hitB, segB_eq, hb, hc, hd]
          cases upB a <;> cases hb' : upDB b <;> simp
          rw [go_step _ _ _ _ c rfl, next_other c _ _ hc (by omega)]
          cases hc' : upDB c <;> simp
          rw [go_step _ _ _ _ d rfl, next_other d _ _ hd (by omega)]
          cases upDB d <;> simp [segGo]
end Go.Proofs.Ytihfhkpglfobfaa
