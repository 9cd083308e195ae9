/- Integers of both: the whole walks. -/
import Derived.Test.YtnicnfchkdmieaaGreatDoorTkf
namespace Go.Proofs.YtnicnfchkdmieaaGreatDoor
open Go.RowKit
set_option linter.unusedVariables false
set_option linter.unusedSimpArgs false
attribute [local go_sem] ByteArray.mk_append_mk bs_get bs_cut bs_end

theorem decF_grows : ∀ (s : List UInt8) (v r : Nat), v ≤ 18446744073709551615 → decF s v = some r → v * 10 ^ s.length ≤ r ∧ r ≤ 18446744073709551615
  | [], v, r, hv, h => by
    rw [decF] at h; injection h with h; subst h
    simp; exact hv
  | c :: t, v, r, hv, h => by
    rw [decF] at h
    split at h
    · next hc =>
      have hc2 := digitB_range hc
      split at h
      · cases h
      · next hb =>
        have := decF_grows t _ r (by omega) h
        refine ⟨Nat.le_trans ?_ this.1, this.2⟩
        rw [List.length_cons, Nat.pow_succ, Nat.mul_comm (10 ^ t.length), ← Nat.mul_assoc]
        exact Nat.mul_le_mul_right _ (by omega)
    · cases h
theorem decF_long {s : List UInt8} (h : 20 < s.length) (h0 : s.head? ≠ some 48) : decF s 0 = none := by
  cases s with
  | nil => simp at h
  | cons c t =>
    rw [decF]
    split
    · next hc =>
      split
      · rfl
      · next hb =>
        have hc2 := digitB_range hc
        have hne : c.toNat ≠ 48 := fun e => h0 (by
          have : c = 48 := UInt8.toNat_inj.1 (by rw [e]; rfl)
          subst this; rfl)
        cases hr : decF t (0 * 10 + (c.toNat - 48)) with
        | none => rfl
        | some r =>
          exfalso
          have := decF_grows t _ r (by omega) hr
          have h10 : 10 ^ 20 ≤ 10 ^ t.length := Nat.pow_le_pow_right (by omega) (by simp at h; omega)
          have h11 : 1 * 10 ^ t.length ≤ (0 * 10 + (c.toNat - 48)) * 10 ^ t.length := Nat.mul_le_mul_right _ (by omega)
          omega
    · rfl
def hexLit : List UInt8 → Bool
  | 48 :: 120 :: _ :: _ => true
  | _ => false
theorem intV_hex {s : List UInt8} (h : hexLit s = true) : intV s = if 18 < s.length then none else hexF (s.drop 2) 0 := by
  unfold hexLit at h
  split at h
  · next c r =>
    unfold intV
    simp only [List.length_cons, List.drop_succ_cons, List.drop_zero]
    by_cases hl : 18 < r.length + 1 + 1 + 1
    · rw [if_pos (.inr (by omega)), if_pos hl]
    · rw [if_neg (by simp; omega), if_neg hl]
  · cases h
theorem intV_dec {s : List UInt8} (h : hexLit s = false) (h0 : s ≠ []) : intV s = if 20 < s.length ∨ (1 < s.length ∧ s.head? = some 48) then none else decF s 0 := by
  unfold intV
  split
  · next d =>
    have hd : d = [] := by cases d with
      | nil => rfl
      | cons c t => cases h
    subst hd
    rfl
  · rfl
  · next t hn1 hn2 =>
    rw [if_pos (.inr ⟨by cases t with
      | nil => exact absurd rfl hn2
      | cons c r => simp, rfl⟩)]
  · next hn1 hn2 hn3 =>
    have hh : s.head? ≠ some 48 := fun e => by
      cases s with
      | nil => cases e
      | cons c t =>
        simp at e
        subst e
        exact hn3 t rfl
    by_cases h20 : 20 < s.length
    · rw [if_pos (.inl h20), decF_long h20 hh]
    · rw [if_neg (by rintro (h | ⟨_, h⟩); exact h20 h; exact hh h)]
theorem intV_noPre {s : List UInt8} (hp : Lib.hasPrefix s [48, 120] = false) (h0 : s.length ≤ 1 ∨ s.head? ≠ some 48) : intV s = decF s 0 := by
  unfold intV
  split
  · cases hp
  · rfl
  · next t hn1 hn2 =>
    rcases h0 with h0 | h0
    · have : t = [] := List.eq_nil_of_length_eq_zero (by simp only [List.length_cons] at h0; omega)
      subst this
      exact absurd rfl hn2
    · exact absurd rfl h0
  · rfl
theorem intV_zero {s : List UInt8} (hp : Lib.hasPrefix s [48, 120] = false) (h1 : 1 < s.length) (h0 : s.head? = some 48) : intV s = none := by
  unfold intV
  split
  · cases hp
  · simp at h1
  · rfl
  · next hn1 hn2 hn3 =>
    exfalso
    cases s with
    | nil => cases h0
    | cons c t =>
      simp at h0
      subst h0
      exact hn3 t rfl
set_option maxRecDepth 100000 in
set_option maxHeartbeats 2000000 in
theorem tInt_any (s : List UInt8) (w : World) (hs : s.length ≤ 9223372036854775000) :
    Calls Tryz.prog 94 #[.string ⟨s.toArray⟩] w fun e w' => e = .returned (intPair (intV s)) ∧ w = w' := by
  cases hp : Lib.hasPrefix s [48, 120]
  · by_cases h0 : s.length ≤ 1 ∨ s.head? ≠ some 48
    · rw [intV_noPre hp h0]
      exact tInt_dec s w hs hp h0
    · have h1 : 1 < s.length := by omega
      have h2 : s.head? = some 48 := Classical.byContradiction fun h => h0 (.inr h)
      rw [intV_zero hp h1 h2]
      have hh : (((s[0]'(by omega)).toNat : Int) == 48) = true := by
        rw [show (48 : Int) = ((48 : UInt8).toNat : Int) from rfl, byte_eq, beq_iff_eq]
        rw [List.head?_eq_getElem?, List.getElem?_eq_getElem (by omega)] at h2
        injection h2 with h2
        exact h2.symm
      have HP := Lib.hid (Tryz.strings_HasPrefix ⟨s.toArray⟩ ⟨#[48, 120]⟩ w)
      rw [show Lib.hasPrefix (ByteArray.mk s.toArray).data.toList (ByteArray.mk #[48, 120]).data.toList = false from hp] at HP
      go_enter Tryz.func94, Tryz.ntmps94
      go_wp2_with fail
      ((with_reducible refine HP.out.mono ?_))
      rintro e w2 ⟨rfl, rfl⟩
      clear HP hp h2
      go_wp2_with fail
      refine bodyPost_ret (results_tmp2 rfl _ _ _) rfl ?_
      exact ⟨rfl, rfl⟩
  · obtain ⟨d, rfl⟩ : ∃ d, s = 48 :: 120 :: d := by
      cases s with
      | nil => cases hp
      | cons a t => cases t with
        | nil => simp [Lib.hasPrefix, List.isPrefixOf] at hp
        | cons b d =>
          simp [Lib.hasPrefix, List.isPrefixOf] at hp
          exact ⟨d, by rw [← hp.1, ← hp.2]⟩
    by_cases hd : 1 ≤ d.length ∧ d.length ≤ 16
    · have e : intV (48 :: 120 :: d) = hexF d 0 := by
        rw [intV, if_neg]
        rintro (h | h)
        · subst h; simp at hd
        · omega
      rw [e]
      exact tInt_hex d w hd.2 hd.1
    · have e : intV (48 :: 120 :: d) = none := by
        rw [intV, if_pos]
        rcases Nat.lt_or_ge d.length 1 with h | h
        · exact .inl (List.eq_nil_of_length_eq_zero (by omega))
        · exact .inr (by omega)
      rw [e]
      have HP := Lib.hid (Tryz.strings_HasPrefix ⟨(48 :: 120 :: d).toArray⟩ ⟨#[48, 120]⟩ w)
      rw [show Lib.hasPrefix (ByteArray.mk (48 :: 120 :: d).toArray).data.toList (ByteArray.mk #[48, 120]).data.toList = true from hp] at HP
      by_cases h0 : d.length = 0
      · have hd0 : d = [] := List.eq_nil_of_length_eq_zero h0
        subst hd0
        go_enter Tryz.func94, Tryz.ntmps94
        go_wp2_with fail
        ((with_reducible refine HP.out.mono ?_))
        rintro e w2 ⟨rfl, rfl⟩
        clear HP hp
        go_wp2_with fail
        refine bodyPost_ret (results_tmp2 rfl _ _ _) rfl ?_
        exact ⟨rfl, rfl⟩
      · have h16 : 16 < d.length := by omega
        have hz : ((d.length : Int) == 0) = false := by rw [beq_eq_false_iff_ne]; omega
        clear h0 hd
        go_enter Tryz.func94, Tryz.ntmps94
        go_wp2_with fail
        ((with_reducible refine HP.out.mono ?_))
        rintro e w2 ⟨rfl, rfl⟩
        clear HP hp
        go_wp2_with fail
        refine bodyPost_ret (results_tmp2 rfl _ _ _) rfl ?_
        exact ⟨rfl, rfl⟩
end Go.Proofs.YtnicnfchkdmieaaGreatDoor
