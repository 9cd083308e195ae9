/- Tkg Tkh -/
import Derived.Test.YtnicnfchkdmieaaGreatDoorZc
set_option linter.unusedVariables false
set_option linter.unusedSimpArgs false
namespace Go.Proofs.YtnicnfchkdmieaaGreatDoor
section
open Go.RowKit
attribute [local go_sem] ByteArray.mk_append_mk bs_get bs_cut bs_end
theorem decF_grows : ∀ (s : List UInt8) (v r : Nat), v ≤ 18446744073709551615 → decF s v = some r → v * 10 ^ s.length ≤ r ∧ r ≤ 18446744073709551615
 | [], v, r, hv, h => by
   rw [decF] at h; injection h with h; subst h
   simp; exact hv
 | c :: t, v, r, hv, h => by
   rw [decF] at h
   split at h
   ·next hc =>
    have hc2 := digitB_range hc
    split at h
    ·cases h
    ·next hb =>
     have := decF_grows t _ r (by omega) h
     refine ⟨Nat.le_trans ?_ this.1, this.2⟩
     rw [List.length_cons, Nat.pow_succ, Nat.mul_comm (10 ^ t.length), ← Nat.mul_assoc]
     exact Nat.mul_le_mul_right _ (by omega)
   ·cases h
theorem decF_long {s : List UInt8} (h : 20 < s.length) (h0 : s.head? ≠ some 48) : decF s 0 = none := by
 cases s with
 | nil => simp at h
 | cons c t =>
   rw [decF]
   split
   ·next hc =>
    split
    ·rfl
    ·next hb =>
     have hc2 := digitB_range hc
     have hne : c.toNat ≠ 48 := fun e => h0 (by
      have : c = 48 := UInt8.toNat_inj.1 (by rw [e] <;> rfl)
      subst this; rfl)
     cases hr : decF t (0 * 10 + (c.toNat - 48)) with
     | none => rfl
     | some r =>
       exfalso
       have := decF_grows t _ r (by omega) hr
       have h10 : 10 ^ 20 ≤ 10 ^ t.length := Nat.pow_le_pow_right (by omega) (by simp at h; omega)
       have h11 : 1 * 10 ^ t.length ≤ (0 * 10 + (c.toNat - 48)) * 10 ^ t.length := Nat.mul_le_mul_right _ (by omega)
       omega
   ·rfl
def hexLit : List UInt8 → Bool
 | 48 :: 120 :: _ :: _ => true
 | _ => false
theorem intV_hex {s : List UInt8} (h : hexLit s = true) : intV s = if 18 < s.length then none else hexF (s.drop 2) 0 := by
 unfold hexLit at h
 split at h
 ·next c r =>
  unfold intV
  simp only [List.length_cons, List.drop_succ_cons, List.drop_zero]
  by_cases hl : 18 < r.length + 1 + 1 + 1
  ·rw [if_pos (.inr (by omega)), if_pos hl]
  ·rw [if_neg (by simp; omega), if_neg hl]
 ·cases h
theorem intV_dec {s : List UInt8} (h : hexLit s = false) (h0 : s ≠ []) : intV s = if 20 < s.length ∨ (1 < s.length ∧ s.head? = some 48) then none else decF s 0 := by
 unfold intV
 split
 ·next d =>
  have hd : d = [] := by cases d with
   | nil => rfl
   | cons c t => cases h
  subst hd
  rfl
 ·rfl
 ·next t hn1 hn2 =>
  rw [if_pos (.inr ⟨by cases t with
   | nil => exact absurd rfl hn2
   | cons c r => simp, rfl⟩)]
 ·next hn1 hn2 hn3 =>
  have hh : s.head? ≠ some 48 := fun e => by
   cases s with
   | nil => cases e
   | cons c t =>
     simp at e
     subst e
     exact hn3 t rfl
  by_cases h20 : 20 < s.length
  ·rw [if_pos (.inl h20), decF_long h20 hh]
  ·rw [if_neg (by rintro (h | ⟨_, h⟩); exact h20 h; exact hh h)]
theorem intV_noPre {s : List UInt8} (hp : Lib.hasPrefix s [48, 120] = false) (h0 : s.length ≤ 1 ∨ s.head? ≠ some 48) : intV s = decF s 0 := by
 unfold intV
 split
 ·cases hp
 ·rfl
 ·next t hn1 hn2 =>
  rcases h0 with h0 | h0
  ·have : t = [] := List.eq_nil_of_length_eq_zero (by simp only [List.length_cons] at h0; omega)
   subst this
   exact absurd rfl hn2
  ·exact absurd rfl h0
 ·rfl
theorem intV_zero {s : List UInt8} (hp : Lib.hasPrefix s [48, 120] = false) (h1 : 1 < s.length) (h0 : s.head? = some 48) : intV s = none := by
 unfold intV
 split
 ·cases hp
 ·simp at h1
 ·rfl
 ·next hn1 hn2 hn3 =>
  exfalso
  cases s with
  | nil => cases h0
  | cons c t =>
    simp at h0
    subst h0
    exact hn3 t rfl
set_option maxRecDepth 100000 in
set_option maxHeartbeats 2000000 in
theorem tInt_any (s : List UInt8) (w : World) (hs : s.length ≤ 9223372036854775000) :
 Calls Tryz.prog 94 #[.string ⟨s.toArray⟩] w fun e w' => e = .returned (intPair (intV s)) ∧ w = w' := by
 cases hp : Lib.hasPrefix s [48, 120]
 ·by_cases h0 : s.length ≤ 1 ∨ s.head? ≠ some 48
  ·rw [intV_noPre hp h0]
   exact tInt_dec s w hs hp h0
  ·have h1 : 1 < s.length := by omega
   have h2 : s.head? = some 48 := Classical.byContradiction fun h => h0 (.inr h)
   rw [intV_zero hp h1 h2]
   have hh : (((s[0]'(by omega)).toNat : Int) == 48) = true := by
    rw [show (48 : Int) = ((48 : UInt8).toNat : Int) from rfl, byte_eq, beq_iff_eq]
    rw [List.head?_eq_getElem?, List.getElem?_eq_getElem (by omega)] at h2
    injection h2 with h2
    exact h2.symm
   have HP := Lib.hid (Tryz.strings_HasPrefix ⟨s.toArray⟩ ⟨#[48, 120]⟩ w)
   rw [show Lib.hasPrefix (ByteArray.mk s.toArray).data.toList (ByteArray.mk #[48, 120]).data.toList = false from hp] at HP
   go_enter Tryz.func94, Tryz.ntmps94
   go_wp2_with fail
   ((with_reducible refine HP.out.mono ?_))
   rintro e w2 ⟨rfl, rfl⟩
   clear HP hp h2
   go_wp2_with fail
   refine bodyPost_ret (results_tmp2 rfl _ _ _) rfl ?_
   exact ⟨rfl, rfl⟩
 ·obtain ⟨d, rfl⟩ : ∃ d, s = 48 :: 120 :: d := by
   cases s with
   | nil => cases hp
   | cons a t => cases t with
     | nil => simp [Lib.hasPrefix, List.isPrefixOf] at hp
     | cons b d =>
       simp [Lib.hasPrefix, List.isPrefixOf] at hp
       exact ⟨d, by rw [← hp.1, ← hp.2]⟩
  by_cases hd : 1 ≤ d.length ∧ d.length ≤ 16
  ·have e : intV (48 :: 120 :: d) = hexF d 0 := by
    rw [intV, if_neg]
    rintro (h | h)
    ·subst h; simp at hd
    ·omega
   rw [e]
   exact tInt_hex d w hd.2 hd.1
  ·have e : intV (48 :: 120 :: d) = none := by
    rw [intV, if_pos]
    rcases Nat.lt_or_ge d.length 1 with h | h
    ·exact .inl (List.eq_nil_of_length_eq_zero (by omega))
    ·exact .inr (by omega)
   rw [e]
   have HP := Lib.hid (Tryz.strings_HasPrefix ⟨(48 :: 120 :: d).toArray⟩ ⟨#[48, 120]⟩ w)
   rw [show Lib.hasPrefix (ByteArray.mk (48 :: 120 :: d).toArray).data.toList (ByteArray.mk #[48, 120]).data.toList = true from hp] at HP
   by_cases h0 : d.length = 0
   ·have hd0 : d = [] := List.eq_nil_of_length_eq_zero h0
    subst hd0
    go_enter Tryz.func94, Tryz.ntmps94
    go_wp2_with fail
    ((with_reducible refine HP.out.mono ?_))
    rintro e w2 ⟨rfl, rfl⟩
    clear HP hp
    go_wp2_with fail
    refine bodyPost_ret (results_tmp2 rfl _ _ _) rfl ?_
    exact ⟨rfl, rfl⟩
   ·have h16 : 16 < d.length := by omega
    have hz : ((d.length : Int) == 0) = false := by rw [beq_eq_false_iff_ne]; omega
    clear h0 hd
    go_enter Tryz.func94, Tryz.ntmps94
    go_wp2_with fail
    ((with_reducible refine HP.out.mono ?_))
    rintro e w2 ⟨rfl, rfl⟩
    clear HP hp
    go_wp2_with fail
    refine bodyPost_ret (results_tmp2 rfl _ _ _) rfl ?_
    exact ⟨rfl, rfl⟩
end
section
open Go.RowKit
attribute [local go_sem] ByteArray.mk_append_mk bs_get bs_cut bs_end
theorem byte_is {s : List UInt8} {k : Nat} (h : k < s.length) (d : UInt8) (b : Bool) (hb : decide (s[k] = d) = b) : ((s[k].toNat : Int) == (d.toNat : Int)) = b := by
 rw [byte_eq, ← hb, Bool.eq_iff_iff, beq_iff_eq, decide_eq_true_eq]; exact eq_comm
theorem hexLit_short {s : List UInt8} (h : s.length < 3) : hexLit s = false := by
 unfold hexLit
 split
 ·next c r => simp only [List.length_cons] at h; omega
 ·rfl
theorem hexLit_long {s : List UInt8} (h : 3 ≤ s.length) : hexLit s = (decide (s[0] = 48) && decide (s[1] = 120)) := by
 match s, h with
 | a :: b :: c :: r, _ =>
   simp only [List.getElem_cons_zero, List.getElem_cons_succ]
   unfold hexLit
   split
   ·next heq => injection heq with h1 h2; injection h2 with h2 h3; subst h1 h2; rfl
   ·next hn =>
    by_cases h1 : a = 48
    ·by_cases h2 : b = 120
     ·subst h1 h2
      exact absurd rfl (hn c r)
     ·simp [h2]
    ·simp [h1]
theorem hexI_some {c : UInt8} {x : Nat} (h : hexV c = some x) : hexI c = x := by unfold hexI; rw [h]
theorem hexI_none {c : UInt8} (h : hexV c = none) : hexI c = -1 := by unfold hexI; rw [h]
set_option maxRecDepth 100000 in
set_option maxHeartbeats 4000000 in
theorem rInt_any (s : List UInt8) (w : World) (hs : s.length ≤ 9223372036854775000) (hne : s ≠ []) :
 Calls Tryz.prog 56 #[.string ⟨s.toArray⟩] w fun e w' => e = .returned (intPair (intV s)) ∧ w = w' := by
 obtain ⟨X, hX⟩ : ∃ X, Hid (intV s = X) := ⟨_, Lib.hid rfl⟩
 rw [hX.out]
 have hpos : 0 < s.length := by cases s with
  | nil => exact absurd rfl hne
  | cons c t => simp
 have HNE : Hid (s ≠ []) := Lib.hid hne
 clear hne
 obtain ⟨b, hb⟩ : ∃ b, Hid (hexLit s = b) := ⟨_, Lib.hid rfl⟩
 go_enter Tryz.func56, Tryz.ntmps56
 go_upto_region 1 with fail
 go_cut [21] (fun z wx => z = .bool b ∧ w = wx)
 case first =>
  by_cases h3 : (3 : Int) ≤ (s.length : Int)
  ·have HB : Hid (b = (decide (s[0] = 48) && decide ((s[1]'(by omega)) = 120))) := Lib.hid (by rw [← hb.out, hexLit_long (by omega)])
   cases h0 : decide (s[0] = 48)
   ·have hx0 : ((s[0].toNat : Int) == 48) = false := byte_is hpos 48 false h0
    rw [h0] at HB
    clear h0
    go_wp2_with fail
    go_meet
    exact ⟨by rw [HB.out]; rfl, rfl⟩
   ·have hx0 : ((s[0].toNat : Int) == 48) = true := byte_is hpos 48 true h0
    rw [h0] at HB
    clear h0
    have h1' : 1 < s.length := by omega
    have hx1 : ((s[1].toNat : Int) == 120) = decide (s[1] = 120) := byte_is h1' 120 _ rfl
    go_wp2_with fail
    go_meet
    exact ⟨by rw [HB.out]; rfl, rfl⟩
  ·have HB : Hid (b = false) := Lib.hid (by rw [← hb.out]; exact hexLit_short (by omega))
   go_wp2_with fail
   go_meet
   exact ⟨by rw [HB.out], rfl⟩
 case rest =>
  obtain ⟨rfl, rfl⟩ := hcut
  cases b
  ·have HX : Hid (X = if 20 < s.length ∨ (1 < s.length ∧ s.head? = some 48) then none else decF s 0) := Lib.hid (by rw [← hX.out]; exact intV_dec hb.out HNE.out)
   clear hb
   have hse : s.isEmpty = false := by cases s with
    | nil => simp at hpos
    | cons c t => rfl
   obtain ⟨B, hB⟩ : ∃ B : Bool, Hid (decide (20 < s.length ∨ (1 < s.length ∧ s.head? = some 48)) = B) := ⟨_, Lib.hid rfl⟩
   have HX2 : Hid (X = if B = true then none else decF s 0) := Lib.hid (by rw [HX.out, ← hB.out]; simp only [decide_eq_true_eq])
   clear HX
   have hh0 : s.head? = some s[0] := by rw [List.head?_eq_getElem?, List.getElem?_eq_getElem hpos]
   have HB1 : Hid (20 < s.length → B = true) := Lib.hid (fun h => by rw [← hB.out, decide_eq_true_eq]; exact .inl h)
   have HB2 : Hid (¬ 20 < s.length → 1 < s.length → B = decide (s[0] = 48)) := Lib.hid (fun h h1 => by
    rw [← hB.out, decide_eq_decide, hh0]
    constructor
    ·rintro (h' | ⟨_, h'⟩)
     ·exact absurd h' h
     ·injection h'
    ·intro h'; exact .inr ⟨h1, by rw [h']⟩)
   have HB3 : Hid (¬ 1 < s.length → B = false) := Lib.hid (fun h => by
    rw [← hB.out, decide_eq_false_iff_not]
    rintro (h' | ⟨h', _⟩) <;> omega)
   clear hh0
   go_upto_region 12 with fail
   go_cut [61] (fun z wx => z = .bool B ∧ w = wx)
   case first =>
    by_cases h20 : (20 : Int) < (s.length : Int)
    ·have HB := Lib.hid (HB1.out (by omega))
     go_wp2_with fail
     go_meet
     exact ⟨by rw [HB.out], rfl⟩
    ·by_cases h1 : (1 : Int) < (s.length : Int)
     ·have HB := Lib.hid (HB2.out (by omega) (by omega))
      have hx0 : ((s[0].toNat : Int) == 48) = decide (s[0] = 48) := byte_is hpos 48 _ rfl
      go_wp2_with fail
      go_meet
      exact ⟨by rw [HB.out], rfl⟩
     ·have HB := Lib.hid (HB3.out (by omega))
      go_wp2_with fail
      go_meet
      exact ⟨by rw [HB.out], rfl⟩
   case rest =>
    obtain ⟨rfl, rfl⟩ := hcut
    clear HB1 HB2 HB3 hB hse
    cases B
    ·have HX : Hid (X = decF s 0) := Lib.hid (by rw [HX2.out] <;> rfl)
     clear HX2
     go_wp2_with fail
     go_loop [7, 6] (fun i v => ∃ (k : Nat) (V : Int), i = .int .i64 k ∧ v = .int .u64 V ∧ k ≤ s.length ∧ Hid (∃ n : Nat, V = n ∧ n ≤ 18446744073709551615 ∧ X = decF (s.drop k) n)) (fun i v => s.length - (intOf i).toNat)
     case atStart => exact ⟨0, 0, rfl, rfl, by omega, Lib.hid ⟨0, rfl, by omega, HX.out⟩⟩
     case round =>
      clear HX
      obtain ⟨k, V, rfl, rfl, hk, HX⟩ := hrel
      by_cases hl : k < s.length
      ·cases h1 : digitB s[k]
       ·have HX2 : Hid (X = none) := Lib.hid (by obtain ⟨n, _, _, h⟩ := HX.out; rw [h]; exact decF_bad hl h1)
        go_wp2_with (go_at_call 55; refine (digit_is _ _ h1 _).mono ?_; rintro e w' ⟨rfl, rfl⟩)
        refine bodyPost_ret (results_tmp2 rfl _ _ _) rfl ?_
        exact ⟨by rw [HX2.out]; rfl, rfl⟩
       ·obtain ⟨hd1, hd2⟩ := digitB_range h1
        obtain ⟨d, hd⟩ : ∃ d : Int, Hid ((s[k].toNat : Int) - 48 = d) := ⟨_, Lib.hid rfl⟩
        have hdd : ((s[k].toNat : Int) - 48) = d := hd.out
        have hd3 : 0 ≤ d := by omega
        have hd4 : d ≤ 9 := by omega
        go_wp2_with (go_at_call 55; refine (digit_is _ _ h1 _).mono ?_; rintro e w' ⟨rfl, rfl⟩)
        ·next hov =>
         have HX2 : Hid (X = none) := Lib.hid (by obtain ⟨n, h1', h2, h3⟩ := HX.out; rw [h3]; exact decF_big hl h1 (by omega))
         refine bodyPost_ret (results_tmp2 rfl _ _ _) rfl ?_
         exact ⟨by rw [HX2.out]; rfl, rfl⟩
        ·next hov =>
         have HX2 : Hid (∃ n : Nat, V * 10 + d = n ∧ n ≤ 18446744073709551615 ∧ X = decF (s.drop (k + 1)) n) := Lib.hid (by
          obtain ⟨n, h1', h2, h3⟩ := HX.out
          have e := decF_yes (v := n) hl h1 (by omega)
          refine ⟨n * 10 + (s[k].toNat - 48), by omega, by omega, by rw [h3, e]⟩)
         have hV : 0 ≤ V := by obtain ⟨n, h1', _⟩ := HX.out; omega
         have e1 : IntKind.u64.wrap (10 * V) = V * 10 := by rw [Int.mul_comm]; exact IntWalk.u64_in _ ⟨by omega, by omega⟩
         have e2 : IntKind.u64.wrap (V * 10 + d) = V * 10 + d := IntWalk.u64_in _ ⟨by omega, by omega⟩
         rw [e1, e2]
         go_round
         case rel => exact ⟨k + 1, V * 10 + d, by go_num, rfl, by omega, HX2⟩
         case measure => simp [intOf]; omega
      ·have HX2 : Hid (∃ n : Nat, V = n ∧ X = some n) := Lib.hid (by obtain ⟨n, h1, h2, h3⟩ := HX.out; exact ⟨n, h1, by rw [h3]; exact decF_end (by omega)⟩)
       go_wp2_with fail
       refine bodyPost_ret (results_tmp2 rfl _ _ _) rfl ?_
       obtain ⟨n, h1, h2⟩ := HX2.out
       exact ⟨by rw [h2, h1]; rfl, rfl⟩
    ·have HX : Hid (X = none) := Lib.hid (by rw [HX2.out] <;> rfl)
     clear HX2
     go_wp2_with fail
     refine bodyPost_ret (results_tmp2 rfl _ _ _) rfl ?_
     exact ⟨by rw [HX.out]; rfl, rfl⟩
  ·have HX : Hid (X = if 18 < s.length then none else hexF (s.drop 2) 0) := Lib.hid (by rw [← hX.out]; exact intV_hex hb.out)
   have h3 : 3 ≤ s.length := Classical.byContradiction fun h => by
    have := hexLit_short (s := s) (by omega)
    rw [hb.out] at this; cases this
   clear hb
   by_cases h18 : (18 : Int) < (s.length : Int)
   ·go_wp2_with fail
    refine bodyPost_ret (results_tmp2 rfl _ _ _) rfl ?_
    exact ⟨by rw [HX.out, if_pos (by omega)]; rfl, rfl⟩
   ·have HX1 : Hid (X = hexF (s.drop 2) 0) := Lib.hid (by rw [HX.out, if_neg (by omega)])
    clear HX
    go_wp2_with fail
    go_loop [5, 4] (fun i v => ∃ k n : Nat, i = .int .i64 k ∧ v = .int .u64 n ∧ 2 ≤ k ∧ k ≤ s.length ∧ Hid (n < 16 ^ (k - 2)) ∧ Hid (X = hexF (s.drop k) n)) (fun i v => s.length - (intOf i).toNat)
    case atStart => exact ⟨2, 0, rfl, rfl, by omega, by omega, Lib.hid (by decide), HX1⟩
    case round =>
     clear HX1
     obtain ⟨k, n, rfl, rfl, hk2, hk, HN, HX⟩ := hrel
     by_cases hl : k < s.length
     ·have HH := Lib.hid (rHex_any s[k] w)
      cases hv : hexV s[k] with
      | none =>
        have HX2 : Hid (X = none) := Lib.hid (by rw [HX.out]; exact hexF_no hl hv)
        rw [hexI_none hv] at HH
        clear hv
        go_wp2_with fail
        ((with_reducible refine HH.out.mono ?_))
        rintro e w3 ⟨rfl, rfl⟩
        go_wp2_with fail
        refine bodyPost_ret (results_tmp2 rfl _ _ _) rfl ?_
        exact ⟨by rw [HX2.out]; rfl, rfl⟩
      | some x =>
        have hx := hexV_lt hv
        have HX2 : Hid (X = hexF (s.drop (k + 1)) (n * 16 + x)) := Lib.hid (by rw [HX.out]; exact hexF_yes hl hv)
        rw [hexI_some hv] at HH
        clear hv
        have hn : n < 1152921504606846976 := Nat.lt_of_lt_of_le HN.out (pow16_le (by omega))
        have hor := or16 n x hn hx
        have HN2 : Hid (n * 16 + x < 16 ^ (k + 1 - 2)) := Lib.hid (by
         have := HN.out
         rw [show k + 1 - 2 = (k - 2) + 1 by omega, Nat.pow_succ]; omega)
        go_wp2_with fail
        ((with_reducible refine HH.out.mono ?_))
        rintro e w3 ⟨rfl, rfl⟩
        go_wp2_with fail
        ((with_reducible refine HH.out.mono ?_))
        rintro e w3 ⟨rfl, rfl⟩
        go_wp2_with fail
        go_round
        case rel => exact ⟨k + 1, n * 16 + x, by go_num, by go_num, by omega, by omega, HN2, HX2⟩
        case measure => simp [intOf]; omega
     ·have HX2 : Hid (X = some n) := Lib.hid (by rw [HX.out]; exact hexF_end (by omega))
      go_wp2_with fail
      refine bodyPost_ret (results_tmp2 rfl _ _ _) rfl ?_
      exact ⟨by rw [HX2.out]; rfl, rfl⟩
end
end Go.Proofs.YtnicnfchkdmieaaGreatDoor
