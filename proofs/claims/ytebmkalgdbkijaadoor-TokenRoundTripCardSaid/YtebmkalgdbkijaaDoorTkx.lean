/- Errors and what lies before and behind them: plain lists. -/
import Derived.Test.YtebmkalgdbkijaaDoorTkw
namespace Go.Proofs.YtebmkalgdbkijaaDoor
open Go.RowKit
set_option linter.unusedVariables false

theorem item_slash (r : List UInt8) : itemL (47 :: r) = none := rfl
theorem item_not_slash {d : List UInt8} {c : UInt8} {v : List UInt8} {z : Nat × Nat × List UInt8 × Nat} (h : itemL d = some z) (hd : d = c :: v) : c ≠ 47 := by
  rintro rfl
  rw [hd, item_slash] at h; cases h
theorem cut_app {s : List UInt8} {p k : Nat} (h1 : p ≤ k) (h2 : k ≤ s.length) : s.drop p = (s.take k).drop p ++ s.drop k := by
  have h := List.take_append_drop k s
  conv => lhs; rw [← h]
  rw [List.drop_append_of_le_length (by rw [List.length_take]; omega)]
theorem skip_is {s : List UInt8} {p q : Nat} {b : Bool} (e1 : (skipL (s.drop p)).1 = s.drop q) (hb : (skipL (s.drop p)).2 = b) : skipL (s.drop p) = (s.drop q, b) := Prod.ext e1 hb
theorem brk10 (b : List UInt8) : Brk (10 :: b) := fun c r h => by injection h with h _; subst h; exact ⟨rfl, by decide, by decide⟩
theorem item36 (b : List UInt8) : itemL (36 :: b) = none := rfl
theorem skip36 (b : List UInt8) : skipL (36 :: b) = (36 :: b, true) := skipL_stop rfl (fun h => by cases h)
theorem scan_after (s b : List UInt8) : ∀ (n p : Nat) (acc l : List Tok), s.length - p ≤ n → p ≤ s.length → scanG s p acc = (l, 0, 0) → scanG (s ++ 10 :: 36 :: b) p acc = ([], s.length + 1, 2) := by
  intro n
  induction n with
  | zero =>
    intro p acc l hn hp h
    obtain rfl : p = s.length := by omega
    have e : (s ++ 10 :: 36 :: b).drop s.length = 10 :: 36 :: b := by rw [List.drop_append_of_le_length (Nat.le_refl _), List.drop_length]; rfl
    have hs : skipL ((s ++ 10 :: 36 :: b).drop s.length) = (36 :: b, true) := by rw [e, skipL_blank rfl, skip36]
    refine scanG_bad (q := s.length + 1) (by rw [hs]; simp only [List.length_append, List.length_cons]; omega) (by rw [hs]) ?_ (by simp) ?_
    · rw [hs]
      have : (s ++ 10 :: 36 :: b).drop (s.length + 1) = ((s ++ 10 :: 36 :: b).drop s.length).drop 1 := by rw [List.drop_drop]
      rw [this, e]; rfl
    · have : (s ++ 10 :: 36 :: b).drop (s.length + 1) = ((s ++ 10 :: 36 :: b).drop s.length).drop 1 := by rw [List.drop_drop]
      rw [this, e]; exact item36 b
  | succ n ih =>
    intro p acc l hn hp h
    obtain ⟨q, hq1, hq2, e1, e2⟩ := skip_place s p hp
    have hdp : (s ++ 10 :: 36 :: b).drop p = s.drop p ++ 10 :: 36 :: b := List.drop_append_of_le_length hp
    have hdq : (s ++ 10 :: 36 :: b).drop q = s.drop q ++ 10 :: 36 :: b := List.drop_append_of_le_length hq2
    cases hb : (skipL (s.drop p)).2 with
    | false =>
      rw [scanG_open e2 hb] at h
      injection h with _ h; injection h with _ h; cases h
    | true =>
      have hsk := skip_is e1 hb
      by_cases hql : q = s.length
      · have hnil : s.drop q = [] := List.drop_eq_nil_of_le (by omega)
        rw [hnil] at hsk
        have hs : skipL ((s ++ 10 :: 36 :: b).drop p) = (36 :: b, true) := by rw [hdp, skip_then _ _ _ (Nat.le_refl _) hsk, skip36]
        have hd1 : (s ++ 10 :: 36 :: b).drop (s.length + 1) = 36 :: b := by
          have : (s ++ 10 :: 36 :: b).drop (s.length + 1) = ((s ++ 10 :: 36 :: b).drop s.length).drop 1 := by rw [List.drop_drop]
          rw [this, List.drop_append_of_le_length (Nat.le_refl _), List.drop_length]; rfl
        refine scanG_bad (q := s.length + 1) (by rw [hs]; simp only [List.length_append, List.length_cons]; omega) (by rw [hs]) (by rw [hs, hd1]) (by simp) (by rw [hd1]; exact item36 b)
      · have hqlt : q < s.length := by omega
        cases hi : itemL (s.drop q) with
        | none =>
          rw [scanG_bad e2 hb e1 hqlt hi] at h
          injection h with _ h; injection h with _ h; cases h
        | some z =>
          obtain ⟨k, v, t, nn⟩ := z
          have hnn : 1 ≤ nn ∧ nn ≤ (s.drop q).length := itemL_le hi
          rw [List.length_drop] at hnn
          rw [scanG_next hq1 e2 hb e1 hqlt hi] at h
          have hrec := ih (q + nn) _ l (by omega) (by omega) h
          have hc := item_not_slash hi (List.drop_eq_getElem_cons hqlt)
          have hdc := List.drop_eq_getElem_cons hqlt
          have hs2 : skipL ((s ++ 10 :: 36 :: b).drop p) = ((s ++ 10 :: 36 :: b).drop q, true) := by
            rw [hdp, hdq, hdc]
            refine skip_in _ (s.drop p) [] _ _ _ (Nat.le_refl _) ?_ hc
            rw [List.append_nil, List.append_nil, ← hdc]; exact hsk
          have hi2 : itemL ((s ++ 10 :: 36 :: b).drop q) = some (k, v, t, nn) := by
            rw [hdq]
            exact item_local (x := []) (by rw [List.append_nil]; exact hi) (by rw [List.length_drop]; omega) (brk10 _)
          rw [scanG_next (q := q) hq1 (by rw [hs2, List.length_drop, List.length_append]; simp only [List.length_cons]; omega) (by rw [hs2]) (by rw [hs2]) (by rw [List.length_append]; omega) hi2]
          exact hrec
theorem scan_before (s : List UInt8) : ∀ (n p k : Nat) (acc : List Tok), s.length - p ≤ n → p ≤ s.length → (scanG s p acc).2 = (k, 2) → p ≤ k ∧ k ≤ s.length ∧ ∃ l, scanG (s.take k) p acc = (l, 0, 0) := by
  intro n
  induction n with
  | zero =>
    intro p k acc hn hp h
    obtain rfl : p = s.length := by omega
    have e : s.drop s.length = [] := List.drop_length
    have hs : skipL (s.drop s.length) = ([], true) := by rw [e]; rfl
    rw [scanG_done (by rw [hs]) (by rw [hs])] at h
    injection h with _ h; cases h
  | succ n ih =>
    intro p k acc hn hp h
    obtain ⟨q, hq1, hq2, e1, e2⟩ := skip_place s p hp
    have hend : ∀ b, (skipL (s.drop p)).2 = b → ∃ l, scanG (s.take q) p acc = (l, 0, 0) := by
      intro b hb
      have hsk := skip_is e1 hb
      rw [cut_app hq1 hq2] at hsk
      have hu := skip_out _ _ _ b (Nat.le_refl _) hsk
      exact ⟨acc, scanG_done (by rw [hu]) (by rw [hu])⟩
    cases hb : (skipL (s.drop p)).2 with
    | false =>
      rw [scanG_open e2 hb] at h
      injection h with h _
      subst h
      exact ⟨hq1, hq2, hend _ hb⟩
    | true =>
      by_cases hql : q = s.length
      · rw [scanG_done hb (by rw [e1]; exact List.drop_eq_nil_of_le (by omega))] at h
        injection h with _ h; cases h
      · have hqlt : q < s.length := by omega
        cases hi : itemL (s.drop q) with
        | none =>
          rw [scanG_bad e2 hb e1 hqlt hi] at h
          injection h with h _
          subst h
          exact ⟨hq1, hq2, hend _ hb⟩
        | some z =>
          obtain ⟨kk, v, t, nn⟩ := z
          have hnn : 1 ≤ nn ∧ nn ≤ (s.drop q).length := itemL_le hi
          rw [List.length_drop] at hnn
          rw [scanG_next hq1 e2 hb e1 hqlt hi] at h
          obtain ⟨h1, h2, l, h3⟩ := ih (q + nn) k _ (by omega) (by omega) h
          refine ⟨by omega, h2, l, ?_⟩
          have hsk := skip_is e1 hb
          rw [cut_app (p := p) (k := k) (by omega) h2, cut_app (p := q) (k := k) (by omega) h2] at hsk
          rw [cut_app (p := q) (k := k) (by omega) h2] at hi
          have hqk : q < (s.take k).length := by rw [List.length_take]; omega
          have hdc := List.drop_eq_getElem_cons hqk
          have hc : (s.take k)[q] ≠ 47 := item_not_slash (v := (s.take k).drop (q + 1) ++ s.drop k) hi (by rw [hdc]; rfl)
          have hs2 : skipL ((s.take k).drop p) = ((s.take k).drop q, true) := by
            rw [hdc] at hsk ⊢
            have := skip_in _ _ _ [] _ _ (Nat.le_refl _) hsk hc
            rw [List.append_nil, List.append_nil] at this
            exact this
          have hi2 : itemL ((s.take k).drop q) = some (kk, v, t, nn) := by
            have := item_local (y := []) hi (by rw [List.length_drop, List.length_take]; omega) Brk.nil
            rw [List.append_nil] at this
            exact this
          rw [scanG_next (q := q) hq1 (by rw [hs2, List.length_drop]; omega) (by rw [hs2]) (by rw [hs2]) hqk hi2]
          exact h3
end Go.Proofs.YtebmkalgdbkijaaDoor
