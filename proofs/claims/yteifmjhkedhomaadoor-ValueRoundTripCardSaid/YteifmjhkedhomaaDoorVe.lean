/- list, String, Buffer of the layer: the walks. -/
import Derived.Test.YteifmjhkedhomaaDoorVd
import Derived.Test.YteifmjhkedhomaaDoorBld
namespace Go.Proofs.YteifmjhkedhomaaDoor
open Go.RowKit
attribute [local go_sem] ByteArray.mk_append_mk bs_get bs_cut bs_end conv1 conv2

def limV (l : List UInt8) : List UInt8 × Int := if l.length ≤ 255 then (l, 0) else ([], 11)
theorem limited_any (l : List UInt8) (w : World) (hs : l.length ≤ 9223372036854775000) : Calls Tryd.prog 39 #[.string ⟨l.toArray⟩] w fun e w' => e = .returned (.tuple #[.string ⟨(limV l).1.toArray⟩, .int .i64 (limV l).2]) ∧ w = w' := by
  unfold limV
  by_cases h : l.length ≤ 255
  · rw [if_pos h]; exact limited_ok l w h
  · rw [if_neg h]; exact limited_long l w (by omega) hs
theorem bounded_any (l : List UInt8) (w : World) (hs : l.length ≤ 9223372036854775000) : Calls Tryd.prog 61 #[.string ⟨l.toArray⟩] w fun e w' => e = .returned (.tuple #[.string ⟨(limV l).1.toArray⟩, .int .i64 (limV l).2]) ∧ w = w' := by
  unfold limV
  by_cases h : l.length ≤ 255
  · rw [if_pos h]; exact bounded_ok l w h
  · rw [if_neg h]; exact bounded_long l w (by omega) hs
set_option maxHeartbeats 1000000 in
theorem list_two (s sep : List UInt8) (g : UInt8 → List UInt8) (hF : ∀ (c : UInt8) (w : World), Calls Tryd.prog 27 #[.int .u8 c.toNat] w fun e w' => e = .returned (.string ⟨(g c).toArray⟩) ∧ Below w.heap.size w w') (hg : ∀ c, (g c).length ≤ 80)
    (w : World) (hs : s.length ≤ 255) (hsep : sep.length ≤ 1) :
    Calls Tryd.prog 37 #[.string ⟨s.toArray⟩, .string ⟨sep.toArray⟩, .func (.func 27) #[] #[]] w fun e w' => e = .returned (.tuple #[.string ⟨(limV (joinL g sep s)).1.toArray⟩, .int .i64 (limV (joinL g sep s)).2]) ∧ Below w.heap.size w w' := by
  have HF := Lib.hid hF
  have HGL := Lib.hid hg
  clear hF hg
  have HB0 := Lib.hid (Bld.fresh w)
  go_enter Tryd.func37, Tryd.ntmps37
  go_wp2_with fail
  go_loopw [12] (fun i wr => ∃ (k : Nat) (x : List UInt8), i = .int .i64 k ∧ k ≤ s.length ∧ x.length ≤ 83 * k ∧ Hid (x = joinK g sep s k) ∧ Hid (Bld wr w.heap.size w.heap.size x) ∧ Hid (Below w.heap.size w wr)) (fun i _ => s.length - (intOf i).toNat)
  case atStart => exact ⟨0, [], rfl, Nat.zero_le _, by simp, Lib.hid rfl, HB0, Lib.hid ((Below.refl _ _).alloc (Nat.le_refl _) _)⟩
  case round =>
    obtain ⟨k, x, rfl, hk, hxl, HX, HB, HW⟩ := hrel
    clear HB0
    by_cases hlt : k < s.length
    · have hlt' : (k : Int) < s.length := by omega
      have HJ := Lib.hid (joinK_succ g sep s k hlt)
      have hgl := HGL.out s[k]
      by_cases h0 : 0 < k
      · have h0' : (0 : Int) < k := by omega
        have HJ2 : Hid (joinK g sep s (k + 1) = x ++ sep ++ g s[k]) := Lib.hid (by rw [HJ.out, if_pos h0, ← HX.out, List.append_assoc])
        clear HJ HX
        go_wp2_with fail
        ((with_reducible refine (bld_str _ _ x sep _ HB.out (by omega)).mono ?_))
        rintro e w2 ⟨rfl, hb2, hw2⟩
        have HB2 := Lib.hid hb2
        have HW2 : Hid (Below w.heap.size w w2) := Lib.hid (HW.out.trans hw2)
        clear hb2 hw2
        go_wp2_with fail
        ((with_reducible refine (HF.out s[k] _).mono ?_))
        rintro e w3 ⟨rfl, hw3⟩
        have HB3 := Lib.hid (HB2.out.below hw3)
        have HW3 : Hid (Below w.heap.size w w3) := Lib.hid (bel_then HW2.out (Nat.le_refl _) hw3)
        clear hw3
        go_wp2_with fail
        ((with_reducible refine (bld_str _ _ (x ++ sep) (g s[k]) _ HB3.out (by rw [List.length_append]; omega)).mono ?_))
        rintro e w4 ⟨rfl, hb4, hw4⟩
        have HB4 := Lib.hid hb4
        have HW4 : Hid (Below w.heap.size w w4) := Lib.hid (HW3.out.trans hw4)
        clear hb4 hw4
        go_wp2_with fail
        go_roundw
        case rel => exact ⟨k + 1, x ++ sep ++ g s[k], by go_num, by omega, by simp only [List.length_append]; omega, Lib.hid HJ2.out.symm, HB4, HW4⟩
        case measure => simp [intOf]; omega
      · have h0' : ¬ (0 : Int) < k := by omega
        have HJ2 : Hid (joinK g sep s (k + 1) = x ++ g s[k]) := Lib.hid (by rw [HJ.out, if_neg h0, ← HX.out, List.nil_append])
        clear HJ HX
        go_wp2_with fail
        ((with_reducible refine (HF.out s[k] _).mono ?_))
        rintro e w3 ⟨rfl, hw3⟩
        have HB3 := Lib.hid (HB.out.below hw3)
        have HW3 : Hid (Below w.heap.size w w3) := Lib.hid (bel_then HW.out (Nat.le_refl _) hw3)
        clear hw3
        go_wp2_with fail
        ((with_reducible refine (bld_str _ _ x (g s[k]) _ HB3.out (by omega)).mono ?_))
        rintro e w4 ⟨rfl, hb4, hw4⟩
        have HB4 := Lib.hid hb4
        have HW4 : Hid (Below w.heap.size w w4) := Lib.hid (HW3.out.trans hw4)
        clear hb4 hw4
        go_wp2_with fail
        go_roundw
        case rel => exact ⟨k + 1, x ++ g s[k], by go_num, by omega, by simp only [List.length_append]; omega, Lib.hid HJ2.out.symm, HB4, HW4⟩
        case measure => simp [intOf]; omega
    · have hlt' : ¬ (k : Int) < s.length := by omega
      obtain rfl : k = s.length := by omega
      go_wp2_with fail
      ((with_reducible refine (bld_string _ _ x _ HB.out).mono ?_))
      rintro e w2 ⟨rfl, hw2⟩
      have HW2 : Hid (Below w.heap.size w w2) := Lib.hid (HW.out.trans hw2)
      clear hw2
      go_wp2_with fail
      ((with_reducible refine (limited_any x _ (by omega)).mono ?_))
      rintro e w3 ⟨rfl, rfl⟩
      go_wp2_with fail
      go_ret2
      exact ⟨by rw [joinL, ← HX.out]; rfl, HW2.out⟩
set_option maxHeartbeats 1000000 in
theorem list_hex (s sep : List UInt8) (g : UInt8 → List UInt8) (hF : ∀ (c : UInt8) (w : World), Calls Tryd.prog 26 #[.int .u8 c.toNat] w fun e w' => e = .returned (.string ⟨(g c).toArray⟩) ∧ Below w.heap.size w w') (hg : ∀ c, (g c).length ≤ 80)
    (w : World) (hs : s.length ≤ 255) (hsep : sep.length ≤ 1) :
    Calls Tryd.prog 37 #[.string ⟨s.toArray⟩, .string ⟨sep.toArray⟩, .func (.func 26) #[] #[]] w fun e w' => e = .returned (.tuple #[.string ⟨(limV (joinL g sep s)).1.toArray⟩, .int .i64 (limV (joinL g sep s)).2]) ∧ Below w.heap.size w w' := by
  have HF := Lib.hid hF
  have HGL := Lib.hid hg
  clear hF hg
  have HB0 := Lib.hid (Bld.fresh w)
  go_enter Tryd.func37, Tryd.ntmps37
  go_wp2_with fail
  go_loopw [12] (fun i wr => ∃ (k : Nat) (x : List UInt8), i = .int .i64 k ∧ k ≤ s.length ∧ x.length ≤ 83 * k ∧ Hid (x = joinK g sep s k) ∧ Hid (Bld wr w.heap.size w.heap.size x) ∧ Hid (Below w.heap.size w wr)) (fun i _ => s.length - (intOf i).toNat)
  case atStart => exact ⟨0, [], rfl, Nat.zero_le _, by simp, Lib.hid rfl, HB0, Lib.hid ((Below.refl _ _).alloc (Nat.le_refl _) _)⟩
  case round =>
    obtain ⟨k, x, rfl, hk, hxl, HX, HB, HW⟩ := hrel
    clear HB0
    by_cases hlt : k < s.length
    · have hlt' : (k : Int) < s.length := by omega
      have HJ := Lib.hid (joinK_succ g sep s k hlt)
      have hgl := HGL.out s[k]
      by_cases h0 : 0 < k
      · have h0' : (0 : Int) < k := by omega
        have HJ2 : Hid (joinK g sep s (k + 1) = x ++ sep ++ g s[k]) := Lib.hid (by rw [HJ.out, if_pos h0, ← HX.out, List.append_assoc])
        clear HJ HX
        go_wp2_with fail
        ((with_reducible refine (bld_str _ _ x sep _ HB.out (by omega)).mono ?_))
        rintro e w2 ⟨rfl, hb2, hw2⟩
        have HB2 := Lib.hid hb2
        have HW2 : Hid (Below w.heap.size w w2) := Lib.hid (HW.out.trans hw2)
        clear hb2 hw2
        go_wp2_with fail
        ((with_reducible refine (HF.out s[k] _).mono ?_))
        rintro e w3 ⟨rfl, hw3⟩
        have HB3 := Lib.hid (HB2.out.below hw3)
        have HW3 : Hid (Below w.heap.size w w3) := Lib.hid (bel_then HW2.out (Nat.le_refl _) hw3)
        clear hw3
        go_wp2_with fail
        ((with_reducible refine (bld_str _ _ (x ++ sep) (g s[k]) _ HB3.out (by rw [List.length_append]; omega)).mono ?_))
        rintro e w4 ⟨rfl, hb4, hw4⟩
        have HB4 := Lib.hid hb4
        have HW4 : Hid (Below w.heap.size w w4) := Lib.hid (HW3.out.trans hw4)
        clear hb4 hw4
        go_wp2_with fail
        go_roundw
        case rel => exact ⟨k + 1, x ++ sep ++ g s[k], by go_num, by omega, by simp only [List.length_append]; omega, Lib.hid HJ2.out.symm, HB4, HW4⟩
        case measure => simp [intOf]; omega
      · have h0' : ¬ (0 : Int) < k := by omega
        have HJ2 : Hid (joinK g sep s (k + 1) = x ++ g s[k]) := Lib.hid (by rw [HJ.out, if_neg h0, ← HX.out, List.nil_append])
        clear HJ HX
        go_wp2_with fail
        ((with_reducible refine (HF.out s[k] _).mono ?_))
        rintro e w3 ⟨rfl, hw3⟩
        have HB3 := Lib.hid (HB.out.below hw3)
        have HW3 : Hid (Below w.heap.size w w3) := Lib.hid (bel_then HW.out (Nat.le_refl _) hw3)
        clear hw3
        go_wp2_with fail
        ((with_reducible refine (bld_str _ _ x (g s[k]) _ HB3.out (by omega)).mono ?_))
        rintro e w4 ⟨rfl, hb4, hw4⟩
        have HB4 := Lib.hid hb4
        have HW4 : Hid (Below w.heap.size w w4) := Lib.hid (HW3.out.trans hw4)
        clear hb4 hw4
        go_wp2_with fail
        go_roundw
        case rel => exact ⟨k + 1, x ++ g s[k], by go_num, by omega, by simp only [List.length_append]; omega, Lib.hid HJ2.out.symm, HB4, HW4⟩
        case measure => simp [intOf]; omega
    · have hlt' : ¬ (k : Int) < s.length := by omega
      obtain rfl : k = s.length := by omega
      go_wp2_with fail
      ((with_reducible refine (bld_string _ _ x _ HB.out).mono ?_))
      rintro e w2 ⟨rfl, hw2⟩
      have HW2 : Hid (Below w.heap.size w w2) := Lib.hid (HW.out.trans hw2)
      clear hw2
      go_wp2_with fail
      ((with_reducible refine (limited_any x _ (by omega)).mono ?_))
      rintro e w3 ⟨rfl, rfl⟩
      go_wp2_with fail
      go_ret2
      exact ⟨by rw [joinL, ← HX.out]; rfl, HW2.out⟩
set_option maxHeartbeats 1000000 in
theorem list_dec (s sep : List UInt8) (g : UInt8 → List UInt8) (hF : ∀ (c : UInt8) (w : World), Calls Tryd.prog 29 #[.int .u8 c.toNat] w fun e w' => e = .returned (.string ⟨(g c).toArray⟩) ∧ Below w.heap.size w w') (hg : ∀ c, (g c).length ≤ 80)
    (w : World) (hs : s.length ≤ 255) (hsep : sep.length ≤ 1) :
    Calls Tryd.prog 37 #[.string ⟨s.toArray⟩, .string ⟨sep.toArray⟩, .func (.func 29) #[] #[]] w fun e w' => e = .returned (.tuple #[.string ⟨(limV (joinL g sep s)).1.toArray⟩, .int .i64 (limV (joinL g sep s)).2]) ∧ Below w.heap.size w w' := by
  have HF := Lib.hid hF
  have HGL := Lib.hid hg
  clear hF hg
  have HB0 := Lib.hid (Bld.fresh w)
  go_enter Tryd.func37, Tryd.ntmps37
  go_wp2_with fail
  go_loopw [12] (fun i wr => ∃ (k : Nat) (x : List UInt8), i = .int .i64 k ∧ k ≤ s.length ∧ x.length ≤ 83 * k ∧ Hid (x = joinK g sep s k) ∧ Hid (Bld wr w.heap.size w.heap.size x) ∧ Hid (Below w.heap.size w wr)) (fun i _ => s.length - (intOf i).toNat)
  case atStart => exact ⟨0, [], rfl, Nat.zero_le _, by simp, Lib.hid rfl, HB0, Lib.hid ((Below.refl _ _).alloc (Nat.le_refl _) _)⟩
  case round =>
    obtain ⟨k, x, rfl, hk, hxl, HX, HB, HW⟩ := hrel
    clear HB0
    by_cases hlt : k < s.length
    · have hlt' : (k : Int) < s.length := by omega
      have HJ := Lib.hid (joinK_succ g sep s k hlt)
      have hgl := HGL.out s[k]
      by_cases h0 : 0 < k
      · have h0' : (0 : Int) < k := by omega
        have HJ2 : Hid (joinK g sep s (k + 1) = x ++ sep ++ g s[k]) := Lib.hid (by rw [HJ.out, if_pos h0, ← HX.out, List.append_assoc])
        clear HJ HX
        go_wp2_with fail
        ((with_reducible refine (bld_str _ _ x sep _ HB.out (by omega)).mono ?_))
        rintro e w2 ⟨rfl, hb2, hw2⟩
        have HB2 := Lib.hid hb2
        have HW2 : Hid (Below w.heap.size w w2) := Lib.hid (HW.out.trans hw2)
        clear hb2 hw2
        go_wp2_with fail
        ((with_reducible refine (HF.out s[k] _).mono ?_))
        rintro e w3 ⟨rfl, hw3⟩
        have HB3 := Lib.hid (HB2.out.below hw3)
        have HW3 : Hid (Below w.heap.size w w3) := Lib.hid (bel_then HW2.out (Nat.le_refl _) hw3)
        clear hw3
        go_wp2_with fail
        ((with_reducible refine (bld_str _ _ (x ++ sep) (g s[k]) _ HB3.out (by rw [List.length_append]; omega)).mono ?_))
        rintro e w4 ⟨rfl, hb4, hw4⟩
        have HB4 := Lib.hid hb4
        have HW4 : Hid (Below w.heap.size w w4) := Lib.hid (HW3.out.trans hw4)
        clear hb4 hw4
        go_wp2_with fail
        go_roundw
        case rel => exact ⟨k + 1, x ++ sep ++ g s[k], by go_num, by omega, by simp only [List.length_append]; omega, Lib.hid HJ2.out.symm, HB4, HW4⟩
        case measure => simp [intOf]; omega
      · have h0' : ¬ (0 : Int) < k := by omega
        have HJ2 : Hid (joinK g sep s (k + 1) = x ++ g s[k]) := Lib.hid (by rw [HJ.out, if_neg h0, ← HX.out, List.nil_append])
        clear HJ HX
        go_wp2_with fail
        ((with_reducible refine (HF.out s[k] _).mono ?_))
        rintro e w3 ⟨rfl, hw3⟩
        have HB3 := Lib.hid (HB.out.below hw3)
        have HW3 : Hid (Below w.heap.size w w3) := Lib.hid (bel_then HW.out (Nat.le_refl _) hw3)
        clear hw3
        go_wp2_with fail
        ((with_reducible refine (bld_str _ _ x (g s[k]) _ HB3.out (by omega)).mono ?_))
        rintro e w4 ⟨rfl, hb4, hw4⟩
        have HB4 := Lib.hid hb4
        have HW4 : Hid (Below w.heap.size w w4) := Lib.hid (HW3.out.trans hw4)
        clear hb4 hw4
        go_wp2_with fail
        go_roundw
        case rel => exact ⟨k + 1, x ++ g s[k], by go_num, by omega, by simp only [List.length_append]; omega, Lib.hid HJ2.out.symm, HB4, HW4⟩
        case measure => simp [intOf]; omega
    · have hlt' : ¬ (k : Int) < s.length := by omega
      obtain rfl : k = s.length := by omega
      go_wp2_with fail
      ((with_reducible refine (bld_string _ _ x _ HB.out).mono ?_))
      rintro e w2 ⟨rfl, hw2⟩
      have HW2 : Hid (Below w.heap.size w w2) := Lib.hid (HW.out.trans hw2)
      clear hw2
      go_wp2_with fail
      ((with_reducible refine (limited_any x _ (by omega)).mono ?_))
      rintro e w3 ⟨rfl, rfl⟩
      go_wp2_with fail
      go_ret2
      exact ⟨by rw [joinL, ← HX.out]; rfl, HW2.out⟩
end Go.Proofs.YteifmjhkedhomaaDoor
