/- White space and comments do not hang on what follows; errors: plain lists. -/
import Derived.Test.YtebmkalgdbkijaaDoorTkv
namespace Go.Proofs.YtebmkalgdbkijaaDoor
open Go.RowKit
set_option linter.unusedVariables false

theorem dropW_app_in : ∀ {u : List UInt8} {a : UInt8} {v : List UInt8}, u.dropWhile (· != 10) = a :: v → ∀ x, (u ++ x).dropWhile (· != 10) = (a :: v) ++ x
  | [], a, v, h, x => by cases h
  | c :: u, a, v, h, x => by
    rw [List.dropWhile_cons] at h
    rw [List.cons_append, List.dropWhile_cons]
    split at h
    · next hc => rw [if_pos hc]; exact dropW_app_in h x
    · next hc => rw [if_neg hc, ← List.cons_append, h]
theorem dropW_app_out : ∀ {u : List UInt8}, u.dropWhile (· != 10) = [] → ∀ x, (u ++ x).dropWhile (· != 10) = x.dropWhile (· != 10)
  | [], h, x => rfl
  | c :: u, h, x => by
    rw [List.dropWhile_cons] at h
    rw [List.cons_append, List.dropWhile_cons]
    split at h
    · next hc => rw [if_pos hc]; exact dropW_app_out h x
    · cases h
theorem dropW_le (u : List UInt8) : (u.dropWhile (· != 10)).length ≤ u.length := (List.dropWhile_sublist _).length_le
theorem closeL_on {c : UInt8} {u : List UInt8} (h : ∀ r, c = 42 → u = 47 :: r → False) : closeL (c :: u) = closeL u := by rw [closeL]; exact h
theorem closeL_app_in : ∀ {u t : List UInt8}, closeL u = some t → ∀ x, closeL (u ++ x) = some (t ++ x)
  | [], t, h, x => by cases h
  | c :: u, t, h, x => by
    by_cases hc : ∃ r, c = 42 ∧ u = 47 :: r
    · obtain ⟨r, rfl, rfl⟩ := hc
      rw [closeL] at h
      injection h with h
      subst h
      rfl
    · rw [closeL_on (fun r h1 h2 => hc ⟨r, h1, h2⟩)] at h
      have ih := closeL_app_in h x
      rw [List.cons_append, closeL_on]
      · exact ih
      · intro r h1 h2
        cases u with
        | nil => cases h
        | cons d u =>
          injection h2 with h2 h3
          exact hc ⟨u, h1, by rw [h2]⟩
theorem closeL_app_out : ∀ {u : List UInt8}, closeL u = none → ∀ {x t : List UInt8}, closeL (u ++ x) = some t → t.length < x.length
  | [], h, x, t, ht => by have := closeL_len _ _ ht; rw [List.nil_append] at this; omega
  | c :: u, h, x, t, ht => by
    by_cases hc : ∃ r, c = 42 ∧ u = 47 :: r
    · obtain ⟨r, rfl, rfl⟩ := hc
      rw [closeL] at h; cases h
    · rw [closeL_on (fun r h1 h2 => hc ⟨r, h1, h2⟩)] at h
      by_cases hc2 : ∃ r, c = 42 ∧ u ++ x = 47 :: r
      · obtain ⟨r, rfl, hr⟩ := hc2
        cases u with
        | nil =>
          rw [List.nil_append] at hr
          subst hr
          rw [List.cons_append, List.nil_append, closeL] at ht
          injection ht with ht
          subst ht
          simp
        | cons d u =>
          injection hr with h1 h2
          exact absurd ⟨u, rfl, by rw [h1]⟩ hc
      · rw [List.cons_append, closeL_on (fun r h1 h2 => hc2 ⟨r, h1, h2⟩)] at ht
        exact closeL_app_out h ht
/-- The skips of a text, one by one. -/
theorem skip_cases (c : UInt8) (r : List UInt8) :
    (blankB c = true ∧ ∀ z, skipL (c :: (r ++ z)) = skipL (r ++ z)) ∨
    (c = 47 ∧ ∃ r', r = 47 :: r') ∨ (c = 47 ∧ ∃ r', r = 42 :: r') ∨
    (blankB c = false ∧ (c ≠ 47 ∨ ∃ d r', r = d :: r' ∧ d ≠ 47 ∧ d ≠ 42)) ∨ (c = 47 ∧ r = []) := by
  cases hb : blankB c
  · right
    by_cases h1 : c = 47
    · cases r with
      | nil => right; right; right; exact ⟨h1, rfl⟩
      | cons d r' =>
        by_cases h2 : d = 47
        · left; exact ⟨h1, r', by rw [h2]⟩
        · by_cases h3 : d = 42
          · right; left; exact ⟨h1, r', by rw [h3]⟩
          · right; right; left; exact ⟨rfl, .inr ⟨d, r', rfl, h2, h3⟩⟩
    · right; right; left; exact ⟨rfl, .inl h1⟩
  · left; exact ⟨rfl, fun z => skipL_blank hb⟩
theorem skip_stop2 {c : UInt8} {r : List UInt8} (hb : blankB c = false) (h : c ≠ 47 ∨ ∃ d r', r = d :: r' ∧ d ≠ 47 ∧ d ≠ 42) (z : List UInt8) : skipL (c :: (r ++ z)) = (c :: (r ++ z), true) := by
  refine skipL_stop hb fun e t => ?_
  rcases h with h | ⟨d, r', rfl, h2, h3⟩
  · exact absurd e h
  · exact ⟨fun h => by injection h with h _; exact h2 h, fun h => by injection h with h _; exact h3 h⟩
theorem skipL_le (d : List UInt8) : (skipL d).1.length ≤ d.length := by
  obtain ⟨k, hk, e⟩ := skipL_suffix d
  rw [e, List.length_drop]; omega
theorem skip_slash {x : List UInt8} (h : (skipL (47 :: x)).1 ≠ 47 :: x) : (skipL (47 :: x)).1.length < x.length ∨ ∃ r, x = 47 :: r ∧ skipL (47 :: x) = skipL ((47 :: x).dropWhile (· != 10)) := by
  cases x with
  | nil => exact absurd (by rw [skipL_stop rfl (fun _ t => ⟨fun h => (by cases h), fun h => (by cases h)⟩)]) h
  | cons d r =>
    by_cases h1 : d = 47
    · subst h1
      right
      exact ⟨r, rfl, skipL_line r⟩
    · by_cases h2 : d = 42
      · subst h2
        cases hc : closeL r with
        | none => rw [skipL_open hc] at h; exact absurd rfl h
        | some t =>
          left
          rw [skipL_block hc]
          have := closeL_len _ _ hc
          have := skipL_le t
          simp only [List.length_cons]
          omega
      · exact absurd (by rw [skipL_stop rfl (fun _ t => ⟨fun h => by injection h with h _; exact h1 h, fun h => by injection h with h _; exact h2 h⟩)]) h
/-- The next item lies in u: what follows u does not matter. -/
theorem skip_in : ∀ (n : Nat) (u x y v : List UInt8) (c : UInt8), u.length ≤ n → skipL (u ++ x) = (c :: v ++ x, true) → c ≠ 47 → skipL (u ++ y) = (c :: v ++ y, true)
  | n, [], x, y, v, c, hn, h, hc => by
    exfalso
    have := skipL_le ([] ++ x)
    rw [h] at this
    simp only [List.nil_append, List.cons_append, List.length_cons, List.length_append] at this
    omega
  | 0, a :: u, x, y, v, c, hn, h, hc => by simp at hn
  | n + 1, a :: u, x, y, v, c, hn, h, hc => by
    simp only [List.length_cons] at hn
    rw [List.cons_append] at h ⊢
    rcases skip_cases a u with ⟨hb, hz⟩ | ⟨rfl, r, rfl⟩ | ⟨rfl, r, rfl⟩ | ⟨hb, hs⟩ | ⟨rfl, rfl⟩
    · rw [hz] at h ⊢
      exact skip_in n u x y v c (by omega) h hc
    · rw [List.cons_append, skipL_line, ← List.cons_append, ← List.cons_append] at h
      rw [List.cons_append, skipL_line, ← List.cons_append, ← List.cons_append]
      cases hd : (47 :: 47 :: r).dropWhile (· != 10) with
      | nil =>
        exfalso
        rw [dropW_app_out hd] at h
        have := skipL_le (x.dropWhile (· != 10))
        have := dropW_le x
        rw [h] at *
        simp only [List.cons_append, List.length_cons, List.length_append] at *
        omega
      | cons b w =>
        rw [dropW_app_in hd] at h ⊢
        refine skip_in n (b :: w) x y v c ?_ h hc
        have := dropLine_len r
        rw [hd] at this
        simp only [List.length_cons] at this hn ⊢
        omega
    · rw [List.cons_append] at h ⊢
      cases hcl : closeL r with
      | some t =>
        rw [skipL_block (closeL_app_in hcl _)] at h ⊢
        have := closeL_len _ _ hcl
        exact skip_in n t x y v c (by simp only [List.length_cons] at hn; omega) h hc
      | none =>
        exfalso
        cases hcl2 : closeL (r ++ x) with
        | none => rw [skipL_open hcl2] at h; injection h with _ h; cases h
        | some t =>
          rw [skipL_block hcl2] at h
          have := closeL_app_out hcl hcl2
          have := skipL_le t
          rw [h] at this
          simp only [List.cons_append, List.length_cons, List.length_append] at this
          omega
    · rw [skip_stop2 hb hs] at h ⊢
      injection h with h _
      rw [← List.cons_append] at h
      have : a :: u = c :: v := List.append_cancel_right h
      rw [← List.cons_append, this]
    · exfalso
      rw [List.nil_append] at h
      have hne : (skipL (47 :: x)).1 ≠ 47 :: x := by
        rw [h]
        intro e
        injection e with e _
        exact hc e
      rcases skip_slash hne with h1 | ⟨r, rfl, h1⟩
      · rw [h] at h1
        simp only [List.cons_append, List.length_cons, List.length_append] at h1
        omega
      · rw [h1] at h
        have h2 := skipL_le ((47 :: 47 :: r : List UInt8).dropWhile (· != 10))
        have h3 := dropLine_len r
        rw [h] at h2
        simp only [List.cons_append, List.length_cons, List.length_append] at h2
        omega
/-- Nothing but white space and comments lies in u. -/
theorem skip_out : ∀ (n : Nat) (u x : List UInt8) (b : Bool), u.length ≤ n → skipL (u ++ x) = (x, b) → skipL u = ([], true)
  | n, [], x, b, hn, h => rfl
  | 0, a :: u, x, b, hn, h => by simp at hn
  | n + 1, a :: u, x, b, hn, h => by
    simp only [List.length_cons] at hn
    rw [List.cons_append] at h
    rcases skip_cases a u with ⟨hb, hz⟩ | ⟨rfl, r, rfl⟩ | ⟨rfl, r, rfl⟩ | ⟨hb, hs⟩ | ⟨rfl, rfl⟩
    · rw [hz] at h
      have h2 := hz []
      rw [List.append_nil] at h2
      rw [h2]
      exact skip_out n u x b (by omega) h
    · rw [List.cons_append, skipL_line, ← List.cons_append, ← List.cons_append] at h
      rw [skipL_line]
      cases hd : (47 :: 47 :: r).dropWhile (· != 10) with
      | nil => rfl
      | cons b' w =>
        rw [dropW_app_in hd] at h
        refine skip_out n (b' :: w) x b ?_ h
        have := dropLine_len r
        rw [hd] at this
        simp only [List.length_cons] at this hn ⊢
        omega
    · rw [List.cons_append] at h
      cases hcl : closeL r with
      | some t =>
        rw [skipL_block (closeL_app_in hcl _)] at h
        rw [skipL_block hcl]
        have := closeL_len _ _ hcl
        exact skip_out n t x b (by simp only [List.length_cons] at hn; omega) h
      | none =>
        exfalso
        cases hcl2 : closeL (r ++ x) with
        | none =>
          rw [skipL_open hcl2] at h
          injection h with h _
          have := congrArg List.length h
          simp only [List.length_cons, List.length_append] at this
          omega
        | some t =>
          rw [skipL_block hcl2] at h
          have := closeL_app_out hcl hcl2
          have := skipL_le t
          rw [h] at this
          simp only at this
          omega
    · exfalso
      rw [skip_stop2 hb hs] at h
      injection h with h _
      have := congrArg List.length h
      simp only [List.length_cons, List.length_append] at this
      omega
    · exfalso
      rw [List.nil_append] at h
      have hne : (skipL (47 :: x)).1 ≠ 47 :: x := by
        rw [h]
        intro e
        have := congrArg List.length e
        simp at this
      rcases skip_slash hne with h1 | ⟨r, rfl, h1⟩
      · rw [h] at h1
        simp only at h1
        omega
      · rw [h1] at h
        have h2 := skipL_le ((47 :: 47 :: r : List UInt8).dropWhile (· != 10))
        have h3 := dropLine_len r
        rw [h] at h2
        simp only [List.length_cons] at h2
        omega
/-- What is skipped to its end is skipped before a line's end, too. -/
theorem skip_then : ∀ (n : Nat) (u y : List UInt8), u.length ≤ n → skipL u = ([], true) → skipL (u ++ 10 :: y) = skipL y
  | n, [], y, hn, h => skipL_blank rfl
  | 0, a :: u, y, hn, h => by simp at hn
  | n + 1, a :: u, y, hn, h => by
    simp only [List.length_cons] at hn
    rw [List.cons_append]
    rcases skip_cases a u with ⟨hb, hz⟩ | ⟨rfl, r, rfl⟩ | ⟨rfl, r, rfl⟩ | ⟨hb, hs⟩ | ⟨rfl, rfl⟩
    · have h2 := hz []
      rw [List.append_nil] at h2
      rw [h2] at h
      rw [hz]
      exact skip_then n u y (by omega) h
    · rw [skipL_line] at h
      rw [List.cons_append, skipL_line, ← List.cons_append, ← List.cons_append]
      cases hd : (47 :: 47 :: r).dropWhile (· != 10) with
      | nil =>
        rw [dropW_app_out hd, List.dropWhile_cons, if_neg (by decide)]
        exact skipL_blank rfl
      | cons b' w =>
        rw [hd] at h
        rw [dropW_app_in hd]
        refine skip_then n (b' :: w) y ?_ h
        have := dropLine_len r
        rw [hd] at this
        simp only [List.length_cons] at this hn ⊢
        omega
    · rw [List.cons_append]
      cases hcl : closeL r with
      | some t =>
        rw [skipL_block hcl] at h
        rw [skipL_block (closeL_app_in hcl _)]
        have := closeL_len _ _ hcl
        exact skip_then n t y (by simp only [List.length_cons] at hn; omega) h
      | none =>
        rw [skipL_open hcl] at h
        injection h with h _
        cases h
    · have h2 := skip_stop2 hb hs []
      rw [List.append_nil] at h2
      rw [h2] at h
      injection h with h _
      cases h
    · rw [skipL_stop rfl (fun _ t => ⟨fun h => (by cases h), fun h => (by cases h)⟩)] at h
      injection h with h _
      cases h
end Go.Proofs.YtebmkalgdbkijaaDoor
