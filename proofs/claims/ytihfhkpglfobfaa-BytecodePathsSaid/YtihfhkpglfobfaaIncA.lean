/- A decoder's result other than 'truncated' stays when bytes are appended: the plain law. -/
import Derived.Test.YtihfhkpglfobfaaPath
import Derived.Test.YtihfhkpglfobfaaLawLen
namespace Go.Proofs.Ytihfhkpglfobfaa
open Go.RowKit

theorem rdNum_inc (r t : List UInt8) (k lim : Nat) (h : (rdNum r k lim).2.2 ≠ 4) : rdNum (r ++ t) k lim = rdNum r k lim := by
  unfold rdNum at h ⊢
  by_cases hk : r.length < k
  · simp [hk] at h
  · have h2 : ¬ (r ++ t).length < k := by rw [List.length_append]; omega
    rw [List.take_append_of_le_length (by omega)]
    simp only [hk, h2, if_false]
theorem rdInt_inc (s t : List UInt8) (h : (rdInt s).2.2 ≠ 4) : rdInt (s ++ t) = rdInt s := by
  match s with
  | [] => exact absurd rfl h
  | c :: r =>
    rw [List.cons_append]
    simp only [rdInt] at h ⊢
    by_cases h1 : c.toNat ≤ 1
    · rw [if_pos h1, if_pos h1]
    rw [if_neg h1] at h ⊢
    rw [if_neg h1]
    by_cases h2 : c.toNat = 255
    · rw [if_pos h2, if_pos h2]
    rw [if_neg h2] at h ⊢
    rw [if_neg h2]
    by_cases h3 : c.toNat = 10
    · rw [if_pos h3] at h ⊢; rw [if_pos h3]; exact rdNum_inc _ _ _ _ h
    rw [if_neg h3] at h ⊢
    rw [if_neg h3]
    by_cases h4 : c.toNat = 11
    · rw [if_pos h4] at h ⊢; rw [if_pos h4]; exact rdNum_inc _ _ _ _ h
    rw [if_neg h4] at h ⊢
    rw [if_neg h4]
    by_cases h5 : c.toNat = 12
    · rw [if_pos h5] at h ⊢; rw [if_pos h5]; exact rdNum_inc _ _ _ _ h
    rw [if_neg h5] at h ⊢
    rw [if_neg h5]
    by_cases h6 : c.toNat = 14
    · rw [if_pos h6] at h ⊢; rw [if_pos h6]; exact rdNum_inc _ _ _ _ h
    rw [if_neg h6, if_neg h6]
theorem rdLenK_inc (c : UInt8) (r t : List UInt8) (k lim : Nat) (h : (rdLenK c r k lim).2.2 ≠ 4) : rdLenK c (r ++ t) k lim = rdLenK c r k lim := by
  unfold rdLenK at h ⊢
  by_cases h0 : c.toNat / 16 % 4 ≠ 0
  · rw [if_pos h0, if_pos h0]
  · rw [if_neg h0] at h ⊢
    rw [if_neg h0]
    by_cases hk : r.length + 1 < k
    · rw [if_pos hk] at h; exact absurd rfl h
    · have h2 : ¬ (r ++ t).length + 1 < k := by rw [List.length_append]; omega
      rw [if_neg hk, if_neg h2, List.take_append_of_le_length (by omega)]
theorem rdLen_inc (s t : List UInt8) (h : (rdLen s).2.2 ≠ 4) : rdLen (s ++ t) = rdLen s := by
  match s with
  | [] => exact absurd rfl h
  | c :: r =>
    rw [List.cons_append]
    simp only [rdLen] at h ⊢
    by_cases h1 : c.toNat = 0
    · rw [if_pos h1, if_pos h1]
    rw [if_neg h1] at h ⊢
    rw [if_neg h1]
    by_cases h2 : c.toNat < 64
    · rw [if_pos h2, if_pos h2]
    rw [if_neg h2] at h ⊢
    rw [if_neg h2]
    by_cases h3 : c.toNat < 128
    · rw [if_pos h3] at h ⊢; rw [if_pos h3]; exact rdLenK_inc _ _ _ _ _ h
    rw [if_neg h3] at h ⊢
    rw [if_neg h3]
    by_cases h4 : c.toNat < 192
    · rw [if_pos h4] at h ⊢; rw [if_pos h4]; exact rdLenK_inc _ _ _ _ _ h
    rw [if_neg h4] at h ⊢
    rw [if_neg h4]
    exact rdLenK_inc _ _ _ _ _ h
theorem segGo_inc (s t : List UInt8) : ∀ f i n, n ≤ i → (segGo s f i n).2 ≠ 4 → i ≤ s.length → segGo (s ++ t) f i n = segGo s f i n
  | 0, i, n, hn, _, hi => by
    rw [segGo, segGo, List.take_append_of_le_length (by omega)]
  | f + 1, i, n, hn, h, hi => by
    by_cases hl : i < s.length
    · rw [segGo_some s f i n hl] at h ⊢
      rw [segGo_some (s ++ t) f i n (by rw [List.length_append]; omega), List.getElem_append_left hl]
      cases hs : segNext s[i].toNat i n with
      | none => rfl
      | some m =>
        rw [hs] at h
        refine segGo_inc s t f (i + 1) m ?_ h (by omega)
        unfold segNext at hs
        repeat' split at hs
        all_goals first | (cases hs; omega) | cases hs
    · rw [segGo_none s f i n (by omega)] at h; exact absurd rfl h
theorem rdSeg_inc (s t : List UInt8) (h : (rdSeg s).2 ≠ 4) : rdSeg (s ++ t) = rdSeg s := segGo_inc s t 4 0 0 (Nat.le_refl _) h (Nat.zero_le _)
theorem segsGo_inc (s t : List UInt8) : ∀ n p acc, p ≤ s.length → (segsGo s n p acc).2.2 ≠ 4 → segsGo (s ++ t) n p acc = segsGo s n p acc
  | 0, _, _, _, _ => rfl
  | n + 1, p, acc, hp, h => by
    rw [segsGo] at h ⊢
    rw [segsGo]
    have hd : (s ++ t).drop p = s.drop p ++ t := List.drop_append_of_le_length hp
    rw [hd]
    by_cases h0 : (rdSeg (s.drop p)).2 = 0
    · rw [rdSeg_inc _ t (by omega)]
      rw [if_pos h0] at h ⊢
      rw [if_pos h0]
      have h4 := rdSeg_len _ h0
      rw [List.length_drop] at h4
      exact segsGo_inc s t n (p + 4) _ (by omega) h
    · rw [if_neg h0] at h
      rw [rdSeg_inc _ t h]
      rw [if_neg h0, if_neg h0]
theorem rdCnt_inc (l t : List UInt8) (most : Int) (pre : Bool) (h : (rdCnt l most pre).2.2 ≠ 4) : rdCnt (l ++ t) most pre = rdCnt l most pre := by
  match l with
  | [] => exact absurd rfl h
  | c :: r =>
    rw [List.cons_append]
    simp only [rdCnt] at h ⊢
    match r with
    | d :: q => rfl
    | [] =>
      by_cases h1 : c.toNat = 0
      · rw [if_pos h1, if_pos h1]
      rw [if_neg h1] at h ⊢
      rw [if_neg h1]
      by_cases h2 : c.toNat = 46
      · rw [if_pos h2, if_pos h2]
      rw [if_neg h2] at h ⊢
      rw [if_neg h2]
      by_cases h3 : c.toNat = 47
      · rw [if_pos h3] at h ⊢
        rw [if_pos h3]
        by_cases h5 : most < 3
        · rw [if_pos h5, if_pos h5]
        · rw [if_neg h5] at h; exact absurd rfl h
      rw [if_neg h3, if_neg h3]
theorem rest_inc (s t : List UInt8) (root : Bool) (up pos : Nat) (hp : pos ≤ s.length) (h : (pathRest s root up pos).err ≠ 4) : pathRest (s ++ t) root up pos = pathRest s root up pos := by
  by_cases h32 : 32 < up
  · rw [pathRest, if_pos h32, pathRest, if_pos h32]
  · have hd : (s ++ t).drop pos = s.drop pos ++ t := List.drop_append_of_le_length hp
    obtain ⟨⟨a, b, c⟩, hc⟩ : ∃ x, rdCnt (s.drop pos) (32 - up) (decide (0 < pos)) = x := ⟨_, rfl⟩
    obtain ⟨a0, a1, b0, b1, c0⟩ := rdCnt_spec (s.drop pos) (32 - up) (decide (0 < pos))
    rw [hc] at a0 a1 b0 b1 c0
    rw [List.length_drop] at b1
    simp only at a0 a1 b0 b1 c0
    by_cases h0 : c = 0
    · subst h0
      have e1 := rest_ok (root := root) h32 hc
      have e2 := rest_ok (root := root) (s := s ++ t) (pos := pos) h32 (by rw [hd, rdCnt_inc _ _ _ _ (by rw [hc]; exact (by decide : (0 : Int) ≠ 4)), hc])
      rw [e1] at h ⊢
      rw [e2]
      have hg : (segsGo s a.toNat (pos + b.toNat) []).2.2 ≠ 4 := by
        intro h4
        rw [h4, if_neg (by decide)] at h
        exact h rfl
      rw [segsGo_inc s t _ _ _ (by omega) hg]
    · have e1 := rest_bad (root := root) h32 hc h0
      rw [e1] at h
      have h4 : c ≠ 4 := fun e => h (by rw [e]; rfl)
      have e2 := rest_bad (root := root) (s := s ++ t) (pos := pos) h32 (by rw [hd, rdCnt_inc _ _ _ _ (by rw [hc]; exact h4), hc]) h0
      rw [e1, e2]
theorem carets_inc (s t : List UInt8) (h : carets s < s.length) : carets (s ++ t) = carets s := by
  induction s with
  | nil => exact absurd h (Nat.lt_irrefl _)
  | cons c r ih =>
    rw [List.cons_append]
    rw [carets] at h ⊢
    rw [carets]
    by_cases hc : c.toNat = 94
    · rw [if_pos hc, List.length_cons] at h
      rw [if_pos hc, if_pos hc, ih (by omega)]
    · rw [if_neg hc, if_neg hc]
theorem carets_mono (s t : List UInt8) : carets s ≤ carets (s ++ t) := by
  induction s with
  | nil => exact Nat.zero_le _
  | cons c r ih =>
    rw [List.cons_append, carets, carets]
    split <;> omega
theorem rdPath_inc (s t : List UInt8) (h : (rdPath s).err ≠ 4) : rdPath (s ++ t) = rdPath s := by
  match s with
  | [] => exact absurd rfl h
  | c :: r =>
    have hr : rootOf (c :: r ++ t) = rootOf (c :: r) := rfl
    cases hro : rootOf (c :: r) with
    | true =>
      have e1 : rdPath (c :: r) = pathRest (c :: r) true 0 1 := by rw [rdPath, hro]; rfl
      have e2 : rdPath (c :: r ++ t) = pathRest (c :: r ++ t) true 0 1 := by rw [rdPath, hr, hro]; rfl
      rw [e1] at h
      rw [e1, e2]
      exact rest_inc _ t _ _ _ (by simp) h
    | false =>
      have e1 : rdPath (c :: r) = pathRest (c :: r) false (carets (c :: r)) (carets (c :: r)) := by rw [rdPath, hro]; rfl
      have e2 : rdPath (c :: r ++ t) = pathRest (c :: r ++ t) false (carets (c :: r ++ t)) (carets (c :: r ++ t)) := by rw [rdPath, hr, hro]; rfl
      rw [e1] at h
      rw [e1, e2]
      by_cases hl : carets (c :: r) < (c :: r).length
      · rw [carets_inc _ t hl]
        exact rest_inc _ t _ _ _ (carets_le _) h
      · have hle := carets_le (c :: r)
        have he : carets (c :: r) = (c :: r).length := by omega
        by_cases h32 : 32 < carets (c :: r)
        · have := carets_mono (c :: r) t
          rw [pathRest, if_pos (by omega), pathRest, if_pos h32]
        · exfalso
          apply h
          have hd : (c :: r).drop (carets (c :: r)) = [] := List.drop_eq_nil_of_le (by omega)
          rw [rest_bad (a := 0) (b := 0) (c := 4) h32 (by rw [hd]; rfl) (by decide)]
          rfl
end Go.Proofs.Ytihfhkpglfobfaa
