/- General-purpose events: the plain model (a list of events) and the words of bits that the program keeps. No program in sight. -/
import Derived.Laws.BitsAllLaws
import Derived.Laws.BitsLemmas
import Derived.Lib.TrailingZeros
import Derived.IntWalk
namespace Go.Proofs.YtdgeocmcmcflfaaDoor

structure Ev where
  level : Bool
  line : Bool
  status : Bool
  enable : Bool
  wake : Bool
  busy : Bool

/-- The word whose bit i is f of event i. -/
def word (f : Ev → Bool) : List Ev → Nat
  | [] => 0
  | e :: r => (if f e then 1 else 0) + 2 * word f r

theorem word_lt (f : Ev → Bool) (l : List Ev) : word f l < 2 ^ l.length := by
  induction l with
  | nil => simp [word]
  | cons e r ih =>
    simp only [word, List.length_cons, Nat.pow_succ]
    split <;> omega

theorem word_lt64 (f : Ev → Bool) (l : List Ev) (h : l.length ≤ 64) : word f l < 18446744073709551616 := by
  have h1 := word_lt f l
  have h2 : (2 : Nat) ^ l.length ≤ 2 ^ 64 := Nat.pow_le_pow_right (by omega) h
  omega

theorem word_bit (f : Ev → Bool) (l : List Ev) (i : Nat) : (word f l).testBit i = (l[i]?.map f).getD false := by
  induction l generalizing i with
  | nil => simp [word]
  | cons e r ih =>
    cases i with
    | zero =>
      rw [Nat.testBit_zero, word]
      simp only [List.getElem?_cons_zero, Option.map_some, Option.getD_some]
      cases f e <;> simp <;> omega
    | succ i =>
      rw [Nat.testBit_succ, word, List.getElem?_cons_succ, ← ih]
      congr 1
      split <;> omega

theorem bit_lt64 (k : Nat) (h : k < 64) : 2 ^ k < 18446744073709551616 := by
  have : (2 : Nat) ^ k < 2 ^ 64 := Nat.pow_lt_pow_right (by omega) h
  omega

/-- 'w & bit'. -/
theorem and_bit (f : Ev → Bool) (l : List Ev) (k : Nat) (e : Ev) (h : l[k]? = some e) : word f l &&& 2 ^ k = if f e then 2 ^ k else 0 := by
  have hb := word_bit f l k
  rw [h] at hb
  simp only [Option.map_some, Option.getD_some] at hb
  rw [nat_bit]
  have : (word f l / 2 ^ k % 2 = 1) = (f e = true) := by
    rw [← hb, Nat.testBit_eq_decide_div_mod_eq, decide_eq_true_eq]
  cases hf : f e
  · have h2 : ¬ word f l / 2 ^ k % 2 = 1 := by rw [this, hf]; simp
    have : word f l / 2 ^ k % 2 = 0 := by omega
    simp [this]
  · have h2 : word f l / 2 ^ k % 2 = 1 := by rw [this, hf]
    simp [h2]

theorem getElem?_set_of (l : List Ev) (k i : Nat) (e : Ev) (hk : k < l.length) : (l.set k e)[i]? = if k = i then some e else l[i]? := by
  rw [List.getElem?_set]
  split
  · rename_i h; subst h; rfl
  · rfl

/-- 'w | bit': event k has it from now on. -/
theorem or_bit (f : Ev → Bool) (l : List Ev) (k : Nat) (e' : Ev) (hk : k < l.length) (hf : f e' = true) : word f l ||| 2 ^ k = word f (l.set k e') := by
  apply Nat.eq_of_testBit_eq
  intro i
  rw [Nat.testBit_or, word_bit, word_bit, getElem?_set_of l k i e' hk, Nat.testBit_two_pow]
  by_cases h : k = i
  · subst h; simp [hf]
  · simp [h]

/-- 'w &^ bit': event k has it no more. -/
theorem andNot_bit (f : Ev → Bool) (l : List Ev) (k : Nat) (e' : Ev) (hl : l.length ≤ 64) (hk : k < l.length) (hf : f e' = false) : word f l &&& (18446744073709551615 - 2 ^ k) = word f (l.set k e') := by
  apply Nat.eq_of_testBit_eq
  intro i
  have hm : 18446744073709551615 - 2 ^ k = 2 ^ 64 - (2 ^ k + 1) := by omega
  rw [Nat.testBit_and, word_bit, word_bit, getElem?_set_of l k i e' hk, hm, Nat.testBit_two_pow_sub_succ (by have := bit_lt64 k (by omega); omega), Nat.testBit_two_pow]
  by_cases h : k = i
  · subst h; simp [hf]
  · by_cases hi : i < l.length
    · simp [h, show i < 64 by omega]
    · simp [h, List.getElem?_eq_none (by omega : l.length ≤ i)]

/-- An event that is put where it has the same bit leaves the word. -/
theorem same_bit (f : Ev → Bool) (l : List Ev) (k : Nat) (e e' : Ev) (h : l[k]? = some e) (hf : f e' = f e) : word f (l.set k e') = word f l := by
  have hk : k < l.length := (List.getElem?_eq_some_iff.1 h).1
  apply Nat.eq_of_testBit_eq
  intro i
  rw [word_bit, word_bit, getElem?_set_of l k i e' hk]
  by_cases hi : k = i
  · subst hi; simp [h, hf]
  · simp [hi]

theorem word_and (f g : Ev → Bool) (l : List Ev) : word f l &&& word g l = word (fun e => f e && g e) l := by
  apply Nat.eq_of_testBit_eq
  intro i
  rw [Nat.testBit_and, word_bit, word_bit, word_bit]
  cases l[i]? <;> simp

theorem word_andNot (f g : Ev → Bool) (l : List Ev) (hl : l.length ≤ 64) : word f l &&& (18446744073709551615 - word g l) = word (fun e => f e && !g e) l := by
  apply Nat.eq_of_testBit_eq
  intro i
  have hg := word_lt64 g l hl
  have hm : 18446744073709551615 - word g l = 2 ^ 64 - (word g l + 1) := by omega
  rw [Nat.testBit_and, hm, Nat.testBit_two_pow_sub_succ (by omega), word_bit, word_bit, word_bit]
  by_cases hi : i < l.length
  · cases l[i]? <;> simp [show i < 64 by omega]
  · simp [List.getElem?_eq_none (by omega : l.length ≤ i)]

theorem word_zero (f : Ev → Bool) (l : List Ev) : word f l = 0 ↔ ∀ e ∈ l, f e = false := by
  induction l with
  | nil => simp [word]
  | cons e r ih =>
    simp only [word, List.mem_cons, forall_eq_or_imp]
    cases f e
    · simp only [Bool.false_eq_true, if_false]
      constructor
      · intro h; exact ⟨trivial, ih.1 (by omega)⟩
      · intro h; have := ih.2 h.2; omega
    · simp only [if_true, Bool.true_eq_false, false_and, iff_false]; omega

/-- The first event with f. -/
def first (f : Ev → Bool) : List Ev → Option Nat
  | [] => none
  | e :: r => if f e then some 0 else (first f r).map (· + 1)

theorem first_none (f : Ev → Bool) (l : List Ev) : first f l = none ↔ word f l = 0 := by
  induction l with
  | nil => simp [first, word]
  | cons e r ih =>
    simp only [first, word]
    cases f e
    · simp [ih]; omega
    · simp

theorem first_some (f : Ev → Bool) (l : List Ev) (k : Nat) (h : first f l = some k) : word f l % 2 ^ (k + 1) = 2 ^ k ∧ k < l.length := by
  induction l generalizing k with
  | nil => simp [first] at h
  | cons e r ih =>
    simp only [first] at h
    cases hf : f e
    · simp only [hf, Bool.false_eq_true, if_false, Option.map_eq_some_iff] at h
      obtain ⟨j, hj, rfl⟩ := h
      obtain ⟨h1, h2⟩ := ih j hj
      simp only [word, hf, Bool.false_eq_true, if_false, List.length_cons]
      refine ⟨?_, by omega⟩
      rw [Nat.zero_add, Nat.pow_succ 2 (j + 1), Nat.mul_comm (2 ^ (j + 1)) 2, Nat.mul_mod_mul_left, h1, Nat.pow_succ]
      omega
    · simp only [hf, if_true, Option.some.injEq] at h
      subst h
      simp only [word, hf, if_true, List.length_cons]
      refine ⟨?_, by omega⟩
      omega

theorem ctzFrom_first (f : Ev → Bool) (l : List Ev) (n k : Nat) (hn : l.length ≤ n) (h : first f l = some k) : Lib.ctzFrom n (word f l) = k := by
  induction l generalizing n k with
  | nil => simp [first] at h
  | cons e r ih =>
    cases n with
    | zero => simp at hn
    | succ n =>
      simp only [List.length_cons] at hn
      simp only [first] at h
      cases hf : f e
      · simp only [hf, Bool.false_eq_true, if_false, Option.map_eq_some_iff] at h
        obtain ⟨j, hj, rfl⟩ := h
        simp only [word, hf, Bool.false_eq_true, if_false, Nat.zero_add]
        rw [Lib.ctzFrom, if_neg (by omega), show 2 * word f r / 2 = word f r by omega, ih n j (by omega) hj]
        omega
      · simp only [hf, if_true, Option.some.injEq] at h
        subst h
        simp only [word, hf, if_true]
        rw [Lib.ctzFrom, if_pos (by omega)]

theorem ctz_first (f : Ev → Bool) (l : List Ev) (k : Nat) (hl : l.length ≤ 64) (h : first f l = some k) : Lib.ctz 64 (word f l) = k := by
  have hne : ¬ word f l = 0 := by rw [← first_none, h]; simp
  rw [Lib.ctz, if_neg hne, ctzFrom_first f l 64 k hl h]

end Go.Proofs.YtdgeocmcmcflfaaDoor
