/- ValueMid: the plain law. -/
import Derived.Test.YteifmjhkedhomaaVs
namespace Go.Proofs.Yteifmjhkedhomaa
open Go.RowKit
set_option linter.unusedVariables false

theorem mid_form (k n : Int) (s : List UInt8) (i m : Int) : ∃ (a b : Int) (t : List UInt8) (c er : Int), midV k n s i m = (valV a b t c, er) := by
  have bad : ∀ e : Int, ∃ (a b : Int) (t : List UInt8) (c er : Int), badV e = (valV a b t c, er) := fun e => ⟨0, 0, [], 0, e, rfl⟩
  unfold midV
  split
  · exact bad _
  split
  · exact ⟨_, _, _, _, _, rfl⟩
  split
  · exact ⟨_, _, _, _, _, rfl⟩
  · exact bad _
theorem lmid_is (k n o i m : Int) (s : List UInt8) (r : Value) (er : Int) (H : Hid (midV k n s i m = (r, er))) (w : World) (hs : s.length ≤ 9223372036854774000) (hi : 0 ≤ i) (hm : 0 ≤ m) (hi2 : i ≤ 18446744073709551615) (hm2 : m ≤ 18446744073709551615) (hn : 0 ≤ n) : Calls Try.prog 13 #[valV k n s o, .int .u64 i, .int .u64 m] w fun e w' => e = .returned (.tuple #[r, .int .i64 er]) ∧ Below w.heap.size w w' := by
  have h := lmid_any k n o i m s w hs hi hm hi2 hm2 hn
  rw [H.out] at h
  exact h
theorem rmid_is (k n o i m : Int) (s : List UInt8) (r : Value) (er : Int) (H : Hid (midV k n s i m = (r, er))) (w : World) (hs : s.length ≤ 9223372036854774000) (hi : 0 ≤ i) (hm : 0 ≤ m) (hi2 : i ≤ 18446744073709551615) (hm2 : m ≤ 18446744073709551615) (hn : 0 ≤ n) : Calls Try.prog 14 #[valV k n s o, .int .u64 i, .int .u64 m] w fun e w' => e = .returned (.tuple #[r, .int .i64 er]) ∧ Below w.heap.size w w' := by
  have h := rmid_any k n o i m s w hs hi hm hi2 hm2 hn
  rw [H.out] at h
  exact h
theorem rconvert_is (k n o kind : Int) (s : List UInt8) (r : Value) (er : Int) (H : Hid (cvV k n s o kind = (r, er))) (w : World) (hs : s.length ≤ 9223372036854774000) (hn0 : 0 ≤ n) (HN : Hid (n.toNat < 2 ^ 64)) : Calls Try.prog 15 #[valV k n s o, .int .i64 kind] w fun e w' => e = .returned (.tuple #[r, .int .i64 er]) ∧ Below w.heap.size w w' := by
  have h := rconvert_any k n o kind s w hs hn0 HN
  rw [H.out] at h
  exact h
/-- A concatenation that succeeds: what it is. -/
theorem cat_says {K nx : Int} {sx : List UInt8} {ky ny : Int} {sy : List UInt8} (hK : K = 2 ∨ K = 3) (hv : validV K sx = true) {r : Value} (h : binV 75 K nx sx ky ny sy = (r, 0)) :
    ∃ t : List UInt8, t.length ≤ 255 ∧ (sx ++ t).length ≤ 255 ∧ r = valV K 0 (sx ++ t) 0 ∧ ∀ oy, cvV ky ny sy oy K = (valV K 0 t 0, 0) := by
  have hk : K = 1 ∨ K = 2 ∨ K = 3 := by omega
  unfold binV at h
  rw [if_neg (by rw [hv]; decide)] at h
  cases hvy : validV ky sy
  · rw [if_pos hvy] at h; unfold badV at h; injection h with h1 h2; cases h2
  rw [if_neg (by rw [hvy]; decide), if_neg (by omega), if_neg (by omega), if_neg (fun h => h hk)] at h
  by_cases he : (cvK ky ny sy K).2.2 = 0
  · rw [if_neg (by rw [he]; simp)] at h
    unfold pairV at h
    rw [if_pos rfl] at h
    unfold catV at h
    rw [if_neg (by omega)] at h
    have hn0 : (cvK ky ny sy K).1 = 0 := by
      unfold cvK
      rw [if_neg (by rw [hvy]; decide), if_neg (by omega)]
      split
      · split <;> rfl
      · split <;> rfl
    unfold textE limV at h
    by_cases hl : (sx ++ (cvK ky ny sy K).2.1).length ≤ 255
    · rw [if_pos hl] at h
      rw [if_pos rfl] at h
      injection h with h1 h2
      refine ⟨(cvK ky ny sy K).2.1, by rw [List.length_append] at hl; omega, hl, h1.symm, fun oy => ?_⟩
      rw [cvV_k ky ny sy oy K hk, if_pos he, hn0]
    · rw [if_neg hl] at h
      rw [if_neg (by simp)] at h
      unfold badV at h
      injection h with h1 h2
      simp at h2
  · rw [if_pos he] at h
    unfold badV at h
    injection h with h1 h2
    exact absurd h2 he
theorem front_says (K : Int) (sx t : List UInt8) (hK : K = 2 ∨ K = 3) (hl : (sx ++ t).length ≤ 255) : midV K 0 (sx ++ t) 0 (sx.length : Int) = (valV K 0 sx 0, 0) := by
  unfold midV
  rw [if_neg (by unfold validV; rw [decide_eq_false_iff_not]; intro h; apply h; rcases hK with rfl | rfl <;> omega), if_neg (by omega), if_pos hK]
  unfold cutL
  simp
theorem back_says (K : Int) (sx t : List UInt8) (hK : K = 2 ∨ K = 3) (hl : (sx ++ t).length ≤ 255) (ht : t.length ≤ 255) : midV K 0 (sx ++ t) (sx.length : Int) 1000 = (valV K 0 t 0, 0) := by
  unfold midV
  rw [if_neg (by unfold validV; rw [decide_eq_false_iff_not]; intro h; apply h; rcases hK with rfl | rfl <;> omega), if_neg (by omega), if_pos hK]
  unfold cutL
  rw [Int.toNat_natCast, List.drop_append, List.drop_length, Nat.sub_self, List.drop_zero, List.nil_append, List.take_of_length_le (by simp; omega)]
end Go.Proofs.Yteifmjhkedhomaa
