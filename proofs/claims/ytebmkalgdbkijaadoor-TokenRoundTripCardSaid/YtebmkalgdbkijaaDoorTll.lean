/- writeString, writeToken: the walks. -/
import Derived.Test.YtebmkalgdbkijaaDoorTlk
import Derived.Test.YtebmkalgdbkijaaDoorFub
namespace Go.Proofs.YtebmkalgdbkijaaDoor
open Go.RowKit
set_option linter.unusedVariables false
set_option linter.unusedSimpArgs false
attribute [local go_sem] ByteArray.mk_append_mk bs_get bs_cut bs_end

theorem hex_lit (d : Nat) (h : d < ([48, 49, 50, 51, 52, 53, 54, 55, 56, 57, 65, 66, 67, 68, 69, 70] : List UInt8).length) : ([48, 49, 50, 51, 52, 53, 54, 55, 56, 57, 65, 66, 67, 68, 69, 70] : List UInt8)[d] = hexC d := by
  have hl : d < hexTab.length := h
  unfold hexC
  simp [List.getD, hl]
  rfl
theorem and15b (c : UInt8) : bits .and .u8 (c.toNat : Int) 15 = ((c.toNat % 16 : Nat) : Int) := by
  have : ∀ k : Fin 256, bits .and .u8 ((k.val : Nat) : Int) 15 = ((k.val % 16 : Nat) : Int) := by decide +kernel
  exact this ⟨c.toNat, c.toNat_lt⟩
theorem quoC_hex {c : UInt8} (h1 : c ≠ 34) (h2 : c ≠ 92) (h3 : ¬ (32 ≤ c.toNat ∧ c.toNat ≤ 126)) : quoC c = [92, 120, hexC (c.toNat / 16), hexC (c.toNat % 16)] := by
  have hc := c.toNat_lt
  unfold quoC
  rw [if_neg (by rintro (h | h); exact h1 h; exact h2 h), if_neg h3]
  by_cases h16 : c.toNat < 16
  · rw [if_pos h16, hexU_small h16, show c.toNat / 16 = 0 by omega, show c.toNat % 16 = c.toNat by omega]; rfl
  · rw [if_neg h16, hexU_big (by omega), hexU_small (by omega)]; rfl
/-- What a writer leaves. -/
def WrPost (w : World) (B b : Nat) (l : List UInt8) (e : Ending) (w' : World) : Prop := e = .returned (.tuple #[]) ∧ BldK w' B b l ∧ Below B w w' ∧ KeptK b w w'
theorem bel_next {B : Nat} {w w' w'' : World} (h : Below B w w') (h' : Below B w' w'') : Below B w w'' := h.trans h'
set_option maxRecDepth 100000 in
set_option maxHeartbeats 4000000 in
theorem wstr_any (B b : Nat) (l s : List UInt8) (w : World) (h : BldK w B b l) (hl : l.length ≤ 1000000000) (hs : s.length ≤ 1000000) :
    Calls Tryd.prog 41 #[.pointer (some ⟨b, 0, none⟩), .string ⟨s.toArray⟩] w (WrPost w B b (l ++ quoL s)) := by
  have H := Lib.hid h
  have HL := Lib.hid hl
  clear h hl
  go_enter Tryd.func41, Tryd.ntmps41
  go_wp2_with fail
  ((with_reducible refine (blk_lit B b l 34 34 rfl _ H.out (by have := HL.out; omega)).mono ?_))
  rintro e w2 ⟨rfl, hb, hw, hk⟩
  have HB := Lib.hid hb
  have HW := Lib.hid hw
  have HK := Lib.hid hk
  clear hb hw hk
  go_wp2_with fail
  go_loopw [10] (fun i wr => ∃ (k : Nat) (x : List UInt8), i = .int .i64 k ∧ k ≤ s.length ∧ Hid (x = l ++ quoK s k) ∧ Hid (x.length ≤ 1000000001 + 4 * k) ∧ Hid (BldK wr B b x) ∧ Hid (Below B w wr) ∧ Hid (KeptK b w wr)) (fun i _ => s.length - (intOf i).toNat)
  case atStart => exact ⟨0, l ++ [34], rfl, by omega, Lib.hid rfl, Lib.hid (by rw [List.length_append]; have := HL.out; simp; omega), HB, HW, HK⟩
  case round =>
    clear HB HW HK
    obtain ⟨k, x, rfl, hk, HX, HXL, HB, HW, HK⟩ := hrel
    obtain ⟨w3, rfl⟩ : ∃ y : World, y = wr := ⟨_, rfl⟩
    by_cases hlt : k < s.length
    · have HX2 : Hid (l ++ quoK s (k + 1) = x ++ quoC s[k]) := Lib.hid (by rw [quoK_succ hlt, HX.out, List.append_assoc])
      have HQL := Lib.hid (quoC_len4 s[k])
      have HQ1 : Hid ((s[k] = 34 ∨ s[k] = 92) → quoC s[k] = [92] ++ [s[k]]) := Lib.hid (fun h => by unfold quoC; rw [if_pos h]; rfl)
      have HQ2 : Hid (s[k] ≠ 34 → s[k] ≠ 92 → 32 ≤ s[k].toNat ∧ s[k].toNat ≤ 126 → quoC s[k] = [s[k]]) := Lib.hid (fun h1 h2 h3 => by unfold quoC; rw [if_neg (by rintro (h | h); exact h1 h; exact h2 h), if_pos h3])
      have HQ3 : Hid (s[k] ≠ 34 → s[k] ≠ 92 → ¬ (32 ≤ s[k].toNat ∧ s[k].toNat ≤ 126) → quoC s[k] = [92, 120] ++ [hexC (s[k].toNat / 16)] ++ [hexC (s[k].toNat % 16)]) := Lib.hid (fun h1 h2 h3 => quoC_hex h1 h2 h3)
      have H34 := Lib.hid (byte_cases' s[k] 34 34 rfl)
      have H92 := Lib.hid (byte_cases' s[k] 92 92 rfl)
      by_cases hqq : s[k] = 34 ∨ s[k] = 92
      · have HQ := Lib.hid (HQ1.out hqq)
        have HT : Hid (((s[k].toNat : Int) == 34) = true ∨ (((s[k].toNat : Int) == 34) = false ∧ ((s[k].toNat : Int) == 92) = true)) := Lib.hid (by
          rcases H34.out with ⟨_, h⟩ | ⟨h0, h⟩
          · exact .inl h
          · rcases H92.out with ⟨_, h'⟩ | ⟨h1, h'⟩
            · exact .inr ⟨h, h'⟩
            · rcases hqq with h2 | h2
              · exact absurd h2 h0
              · exact absurd h2 h1)
        clear hqq HQ1 HQ2 HQ3 H34 H92
        rcases HT.out with h34 | ⟨h34, h92⟩
        all_goals
          go_wp2_with fail
          ((with_reducible refine (blk_lit B b x 92 92 rfl _ HB.out (by have := HXL.out; omega)).mono ?_))
          rintro e w4 ⟨rfl, hb, hw, hkk⟩
          have HB4 := Lib.hid hb
          have HW4 := Lib.hid (bel_next HW.out hw)
          have HK4 := Lib.hid (HK.out.trans hkk)
          clear hb hw hkk
          go_wp2_with fail
          ((with_reducible refine (blk_byte B b (x ++ [92]) s[k] _ HB4.out (by rw [List.length_append]; have := HXL.out; simp; omega)).mono ?_))
          rintro e w5 ⟨rfl, hb, hw, hkk⟩
          have HB5 := Lib.hid hb
          have HW5 := Lib.hid (bel_next HW4.out hw)
          have HK5 := Lib.hid (HK4.out.trans hkk)
          clear hb hw hkk
          go_wp2_with fail
          go_roundw
          case rel => exact ⟨k + 1, x ++ [92] ++ [s[k]], by go_num, by omega, Lib.hid (by rw [HX2.out, HQ.out, List.append_assoc]), Lib.hid (by have := HXL.out; simp only [List.length_append, List.length_cons, List.length_nil]; omega), HB5, HW5, HK5⟩
          case measure => simp [intOf]; omega
      · have e1 : s[k] ≠ 34 := fun h => hqq (.inl h)
        have e2 : s[k] ≠ 92 := fun h => hqq (.inr h)
        have h34 := (H34.out.resolve_left fun h => e1 h.1).2
        have h92 := (H92.out.resolve_left fun h => e2 h.1).2
        have HQ2' := Lib.hid (HQ2.out e1 e2)
        have HQ3' := Lib.hid (HQ3.out e1 e2)
        clear hqq e1 e2 HQ1 HQ2 HQ3 H34 H92
        have hc := s[k].toNat_lt
        by_cases h3 : (32 : Int) ≤ (s[k].toNat : Int) ∧ (s[k].toNat : Int) ≤ 126
        · obtain ⟨h3, h4⟩ := h3
          have HQ := Lib.hid (HQ2'.out ⟨by omega, by omega⟩)
          clear HQ2' HQ3'
          go_wp2_with fail
          ((with_reducible refine (blk_byte B b x s[k] _ HB.out (by have := HXL.out; omega)).mono ?_))
          rintro e w4 ⟨rfl, hb, hw, hkk⟩
          have HB4 := Lib.hid hb
          have HW4 := Lib.hid (bel_next HW.out hw)
          have HK4 := Lib.hid (HK.out.trans hkk)
          clear hb hw hkk
          go_wp2_with fail
          go_roundw
          case rel => exact ⟨k + 1, x ++ [s[k]], by go_num, by omega, Lib.hid (by rw [HX2.out, HQ.out]), Lib.hid (by have := HXL.out; simp only [List.length_append, List.length_cons, List.length_nil]; omega), HB4, HW4, HK4⟩
          case measure => simp [intOf]; omega
        · have HQ := Lib.hid (HQ3'.out (by omega))
          have HP : Hid ((32 : Int) ≤ (s[k].toNat : Int) → ¬ (s[k].toNat : Int) ≤ 126) := Lib.hid (fun a b => h3 ⟨a, b⟩)
          have hand := and15b s[k]
          have l1 : s[k].toNat / 16 < ([48, 49, 50, 51, 52, 53, 54, 55, 56, 57, 65, 66, 67, 68, 69, 70] : List UInt8).length := by show _ < 16; omega
          have l2 : s[k].toNat % 16 < ([48, 49, 50, 51, 52, 53, 54, 55, 56, 57, 65, 66, 67, 68, 69, 70] : List UInt8).length := by show _ < 16; omega
          rw [← hex_lit _ l1, ← hex_lit _ l2] at HQ
          clear HQ2' HQ3' h3
          have HZ : Hid (¬ (32 : Int) ≤ (s[k].toNat : Int) ∨ ((32 : Int) ≤ (s[k].toNat : Int) ∧ ¬ (s[k].toNat : Int) ≤ 126)) := Lib.hid (by
            by_cases h : (32 : Int) ≤ (s[k].toNat : Int)
            · exact .inr ⟨h, HP.out h⟩
            · exact .inl h)
          clear HP
          rcases HZ.out with h5 | ⟨h5, h6⟩
          all_goals
            go_wp2_with fail
            ((with_reducible refine (blk_str B b x [92, 120] _ HB.out (by have := HXL.out; simp only [List.length_cons, List.length_nil]; omega)).mono ?_))
            rintro e w4 ⟨rfl, hb, hw, hkk⟩
            have HB4 := Lib.hid hb
            have HW4 := Lib.hid (bel_next HW.out hw)
            have HK4 := Lib.hid (HK.out.trans hkk)
            clear hb hw hkk
            go_wp2_with fail
            ((with_reducible refine (blk_byte B b (x ++ [92, 120]) _ _ HB4.out (by rw [List.length_append]; have := HXL.out; simp; omega)).mono ?_))
            rintro e w5 ⟨rfl, hb, hw, hkk⟩
            have HB5 := Lib.hid hb
            have HW5 := Lib.hid (bel_next HW4.out hw)
            have HK5 := Lib.hid (HK4.out.trans hkk)
            clear hb hw hkk
            go_wp2_with fail
            ((with_reducible refine (blk_byte B b (x ++ [92, 120] ++ [_]) _ _ HB5.out (by rw [List.length_append, List.length_append]; have := HXL.out; simp; omega)).mono ?_))
            rintro e w6 ⟨rfl, hb, hw, hkk⟩
            have HB6 := Lib.hid hb
            have HW6 := Lib.hid (bel_next HW5.out hw)
            have HK6 := Lib.hid (HK5.out.trans hkk)
            clear hb hw hkk
            go_wp2_with fail
            go_roundw
            case rel => exact ⟨k + 1, x ++ [92, 120] ++ [_] ++ [_], by go_num, by omega, Lib.hid (by rw [HX2.out, HQ.out]; simp only [List.append_assoc]), Lib.hid (by have := HXL.out; simp only [List.length_append, List.length_cons, List.length_nil]; omega), HB6, HW6, HK6⟩
            case measure => simp [intOf]; omega
    · have hkl : k = s.length := by omega
      have HX2 : Hid (x ++ [34] = l ++ quoL s) := Lib.hid (by unfold quoL; rw [HX.out, hkl, List.append_assoc])
      clear hkl
      go_wp2_with fail
      ((with_reducible refine (blk_lit B b x 34 34 rfl _ HB.out (by have := HXL.out; omega)).mono ?_))
      rintro e w4 ⟨rfl, hb, hw, hkk⟩
      have HB4 := Lib.hid hb
      have HW4 := Lib.hid (bel_next HW.out hw)
      have HK4 := Lib.hid (HK.out.trans hkk)
      clear hb hw hkk
      go_wp2_with fail
      go_end0
      exact ⟨rfl, by rw [← HX2.out]; exact HB4.out, HW4.out, HK4.out⟩
end Go.Proofs.YtebmkalgdbkijaaDoor
