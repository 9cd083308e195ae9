/- hexDigits, FormatInt, Quote of the reference: the walks. -/
import Derived.Test.YtnicnfchkdmieaaGreatDoorBs
import Derived.Laws.BitsAllLaws
import Derived.Laws.BitsLemmas
import Derived.IntWalk
namespace Go.Proofs.YtnicnfchkdmieaaGreatDoor
open Go.RowKit
set_option linter.unusedVariables false
set_option linter.unusedSimpArgs false
attribute [local go_sem] ByteArray.mk_append_mk bs_get bs_cut bs_end

def hexTab : List UInt8 := [48, 49, 50, 51, 52, 53, 54, 55, 56, 57, 65, 66, 67, 68, 69, 70]
def hexC (d : Nat) : UInt8 := hexTab.getD d 48
/-- The digits of v, none for 0. -/
def hexP (v : Nat) : List UInt8 := if h : v = 0 then [] else hexP (v / 16) ++ [hexC (v % 16)]
termination_by v
decreasing_by omega
/-- The digits of v. -/
def hexU (v : Nat) : List UInt8 := hexP (v / 16) ++ [hexC (v % 16)]
theorem hexP_zero : hexP 0 = [] := by rw [hexP]; rfl
theorem hexP_pos {v : Nat} (h : v ≠ 0) : hexP v = hexP (v / 16) ++ [hexC (v % 16)] := by rw [hexP, dif_neg h]
theorem hex_cut (m : Nat) (h : m < 16) : List.take 1 (List.drop m hexTab) = [hexC m] := by
  have : ∀ m : Fin 16, List.take 1 (List.drop m.val hexTab) = [hexC m.val] := by decide +kernel
  exact this ⟨m, h⟩
theorem and15 (v : Nat) (h : v ≤ 18446744073709551615) : bits .and .u64 (v : Int) 15 = ((v % 16 : Nat) : Int) := by
  have := u64_and_nat v 15 (by omega) (by omega)
  rw [show ((15 : Nat) : Int) = 15 from rfl] at this
  rw [this, show (15 : Nat) = 2 ^ 4 - 1 from rfl, Nat.and_two_pow_sub_one_eq_mod]
set_option maxRecDepth 100000 in
set_option maxHeartbeats 4000000 in
theorem hexU_any (v : Nat) (w : World) (hv : Hid (v ≤ 18446744073709551615)) : Calls Tryz.prog 60 #[.int .u64 v] w fun e w' => e = .returned (.string ⟨(hexU v).toArray⟩) ∧ w = w' := by
  obtain ⟨m, hm⟩ : ∃ m, v % 16 = m := ⟨_, rfl⟩
  have hm16 : m < 16 := by omega
  have hand := and15 v hv.out
  rw [hm] at hand
  have hcut := hex_cut m hm16
  unfold hexTab at hcut
  obtain ⟨X, hX⟩ : ∃ X, Hid (hexU v = X) := ⟨_, Lib.hid rfl⟩
  rw [hX.out]
  have HX : Hid (X = hexP (v / 16) ++ [hexC m]) := Lib.hid (by rw [← hX.out, hexU, hm])
  have HM := Lib.hid hm
  clear hm
  go_enter Tryz.func60, Tryz.ntmps60
  go_wp2_with fail
  go_loop [0, 3] (fun z s => ∃ (n : Nat) (x : List UInt8), z = .int .u64 n ∧ s = .string ⟨x.toArray⟩ ∧ x.length ≤ 16 ∧ 1 ≤ x.length ∧ Hid (n < 16 ^ (16 - x.length)) ∧ Hid (X = hexP n ++ x)) (fun z s => (intOf z).toNat)
  case atStart =>
    refine ⟨v / 16, [hexC m], ?_, rfl, by simp, by simp, Lib.hid ?_, HX⟩
    · simp
    · have := hv.out
      simp only [List.length_cons, List.length_nil]
      have e : (16 : Nat) ^ (16 - (0 + 1)) = 1152921504606846976 := by decide
      omega
  case round =>
    clear hand hcut HX
    obtain ⟨n, x, rfl, rfl, hx, hx1, HN, HX⟩ := hrel
    by_cases h0 : (0 : Int) < (n : Int)
    · have hnb : Hid (n ≤ 1152921504606846976 ∧ x.length < 16) := Lib.hid (by
        have := HN.out
        have h1 : (16 : Nat) ^ (16 - x.length) ≤ 16 ^ 16 := Nat.pow_le_pow_right (by omega) (by omega)
        by_cases hx16 : x.length = 16
        · rw [hx16] at this; simp at this; omega
        · have h2 : (16 : Nat) ^ (16 - x.length) ≤ 16 ^ 15 := Nat.pow_le_pow_right (by omega) (by omega)
          have e : (16 : Nat) ^ 15 = 1152921504606846976 := by decide
          omega)
      obtain ⟨d, hd⟩ : ∃ d, n % 16 = d := ⟨_, rfl⟩
      have hd16 : d < 16 := by omega
      have hand := and15 n (by have := hnb.out; omega)
      rw [hd] at hand
      have hcut := hex_cut d hd16
      unfold hexTab at hcut
      have hxl : x.length < 16 := hnb.out.2
      have HX2 : Hid (X = hexP (n / 16) ++ (hexC d :: x)) := Lib.hid (by rw [HX.out, hexP_pos (by omega), hd, List.append_assoc]; rfl)
      have HN2 : Hid (n / 16 < 16 ^ (16 - (hexC d :: x).length)) := Lib.hid (by
        have := HN.out
        rw [List.length_cons]
        rw [show 16 - x.length = (16 - (x.length + 1)) + 1 by omega, Nat.pow_succ] at this
        omega)
      clear hd hnb HX HN
      go_wp2_with fail
      go_round
      case rel => exact ⟨n / 16, hexC d :: x, by simp, by simp, by simp; omega, by simp, HN2, HX2⟩
      case measure => simp [intOf]; omega
    · have hx2 : Hid (X = x) := Lib.hid (by rw [HX.out, show n = 0 by omega, hexP_zero]; rfl)
      go_wp2_with fail
      go_ret
      exact ⟨by rw [hx2.out]; rfl, rfl⟩
/-- The literal of an integer. -/
def fmtI (v : Nat) : List UInt8 := if v < 10 then hexU v else 48 :: 120 :: hexU v
theorem hexP_len : ∀ (k v : Nat), v < 16 ^ k → (hexP v).length ≤ k
  | 0, v, h => by
    have : v = 0 := by simp at h; exact h
    subst this; rw [hexP_zero]; simp
  | k + 1, v, h => by
    by_cases h0 : v = 0
    · subst h0; rw [hexP_zero]; simp
    · rw [hexP_pos h0, List.length_append]
      have := hexP_len k (v / 16) (by rw [Nat.pow_succ] at h; omega)
      simp; omega
theorem hexU_len {v : Nat} (h : v ≤ 18446744073709551615) : (hexU v).length ≤ 16 := by
  unfold hexU
  rw [List.length_append]
  have e : (16 : Nat) ^ 15 = 1152921504606846976 := by decide
  have := hexP_len 15 (v / 16) (by omega)
  simp; omega
theorem fmtI_len {v : Nat} (h : v ≤ 18446744073709551615) : (fmtI v).length ≤ 18 := by
  have := hexU_len h
  unfold fmtI
  split
  · omega
  · simp only [List.length_cons]; omega
set_option maxRecDepth 100000 in
theorem fmtI_any (v : Nat) (w : World) (hv : Hid (v ≤ 18446744073709551615)) : Calls Tryz.prog 36 #[.int .u64 v] w fun e w' => e = .returned (.string ⟨(fmtI v).toArray⟩) ∧ w = w' := by
  have HU := Lib.hid (hexU_any v w hv)
  have HL := hexU_len hv.out
  obtain ⟨U, hU⟩ : ∃ U, Hid (hexU v = U) := ⟨_, Lib.hid rfl⟩
  rw [hU.out] at HU HL
  obtain ⟨X, hX⟩ : ∃ X, Hid (fmtI v = X) := ⟨_, Lib.hid rfl⟩
  rw [hX.out]
  have HX : Hid (X = if v < 10 then U else 48 :: 120 :: U) := Lib.hid (by rw [← hX.out, ← hU.out]; rfl)
  go_enter Tryz.func36, Tryz.ntmps36
  by_cases h10 : (v : Int) < 10
  · go_wp2_with fail
    ((with_reducible refine HU.out.mono ?_))
    rintro e w2 ⟨rfl, rfl⟩
    go_wp2_with fail
    go_ret
    exact ⟨by rw [HX.out, if_pos (by omega)]; rfl, rfl⟩
  · go_wp2_with fail
    ((with_reducible refine HU.out.mono ?_))
    rintro e w2 ⟨rfl, rfl⟩
    go_wp2_with fail
    go_ret
    exact ⟨by rw [HX.out, if_neg (by omega)]; rfl, rfl⟩
/-- One byte of a string literal. -/
def quoC (c : UInt8) : List UInt8 :=
  if c = 34 ∨ c = 92 then [92, c] else if 32 ≤ c.toNat ∧ c.toNat ≤ 126 then [c] else if c.toNat < 16 then 92 :: 120 :: 48 :: hexU c.toNat else 92 :: 120 :: hexU c.toNat
/-- The literal of a string, to place k. -/
def quoK (v : List UInt8) (k : Nat) : List UInt8 := 34 :: (v.take k).flatMap quoC
def quoL (v : List UInt8) : List UInt8 := quoK v v.length ++ [34]
theorem quoK_succ {v : List UInt8} {k : Nat} (h : k < v.length) : quoK v (k + 1) = quoK v k ++ quoC v[k] := by
  unfold quoK
  rw [List.take_succ_eq_append_getElem h, List.flatMap_append]
  simp
theorem quoC_len (c : UInt8) : (quoC c).length ≤ 19 := by
  have hc := c.toNat_lt
  have := hexU_len (v := c.toNat) (by omega)
  unfold quoC
  split
  · simp
  · split
    · simp
    · split
      · simp only [List.length_cons]; omega
      · simp only [List.length_cons]; omega
theorem byte_cases' (b d : UInt8) (n : Int) (hn : (d.toNat : Int) = n) : (b = d ∧ ((b.toNat : Int) == n) = true) ∨ (b ≠ d ∧ ((b.toNat : Int) == n) = false) := by
  subst hn
  by_cases h : b = d
  · left; subst h; exact ⟨rfl, by simp⟩
  · right; exact ⟨h, by rw [beq_eq_false_iff_ne]; intro e; exact h (UInt8.toNat_inj.1 (by omega))⟩
theorem take_one {s : List UInt8} {k : Nat} (h : k < s.length) : List.take 1 (List.drop k s) = [s[k]] := by
  rw [List.drop_eq_getElem_cons h]; rfl
set_option maxRecDepth 100000 in
set_option maxHeartbeats 4000000 in
theorem quo_any (s : List UInt8) (w : World) (hs : s.length ≤ 1000000) : Calls Tryz.prog 37 #[.string ⟨s.toArray⟩] w fun e w' => e = .returned (.string ⟨(quoL s).toArray⟩) ∧ w = w' := by
  go_enter Tryz.func37, Tryz.ntmps37
  go_wp2_with fail
  go_loop [3, 4] (fun z i => ∃ (k : Nat) (x : List UInt8), z = .string ⟨x.toArray⟩ ∧ i = .int .i64 k ∧ k ≤ s.length ∧ x.length ≤ 20 * k + 1 ∧ Hid (x = quoK s k)) (fun z i => s.length - (intOf i).toNat)
  case atStart => exact ⟨0, [34], rfl, rfl, by omega, by simp, Lib.hid rfl⟩
  case round =>
    obtain ⟨k, x, rfl, rfl, hk, hx, HX⟩ := hrel
    by_cases hlt : k < s.length
    · have HX2 : Hid (x ++ quoC s[k] = quoK s (k + 1)) := Lib.hid (by rw [HX.out, quoK_succ hlt])
      have hcut := take_one hlt
      have hql := quoC_len s[k]
      obtain ⟨Q, hQ⟩ : ∃ Q, Hid (quoC s[k] = Q) := ⟨_, Lib.hid rfl⟩
      rw [hQ.out] at HX2 hql
      have H34 := Lib.hid (byte_cases' s[k] 34 34 rfl)
      have H92 := Lib.hid (byte_cases' s[k] 92 92 rfl)
      have hQ1 : Hid ((s[k] = 34 ∨ s[k] = 92) → Q = [92, s[k]]) := Lib.hid (fun h => by rw [← hQ.out]; unfold quoC; rw [if_pos h])
      have hQ2 : Hid (s[k] ≠ 34 → s[k] ≠ 92 → Q = if 32 ≤ s[k].toNat ∧ s[k].toNat ≤ 126 then [s[k]] else if s[k].toNat < 16 then 92 :: 120 :: 48 :: hexU s[k].toNat else 92 :: 120 :: hexU s[k].toNat) := Lib.hid (fun h1 h2 => by
        rw [← hQ.out]; unfold quoC; rw [if_neg (by rintro (h | h); exact h1 h; exact h2 h)])
      rcases H34.out with ⟨e1, h34⟩ | ⟨e1, h34⟩
      · obtain rfl := hQ1.out (.inl e1)
        clear e1 H34 H92 hQ1 hQ2 hQ
        go_wp2_with fail
        go_round
        case rel => exact ⟨k + 1, x ++ [92, s[k]], by simp, by go_num, by omega, by rw [List.length_append]; omega, HX2⟩
        case measure => simp [intOf]; omega
      rcases H92.out with ⟨e2, h92⟩ | ⟨e2, h92⟩
      · obtain rfl := hQ1.out (.inr e2)
        clear e1 e2 H34 H92 hQ1 hQ2 hQ
        go_wp2_with fail
        go_round
        case rel => exact ⟨k + 1, x ++ [92, s[k]], by simp, by go_num, by omega, by rw [List.length_append]; omega, HX2⟩
        case measure => simp [intOf]; omega
      have hQ3 := Lib.hid (hQ2.out e1 e2)
      have hc := s[k].toNat_lt
      have HU := Lib.hid (hexU_any s[k].toNat w (Lib.hid (by omega)))
      have hul := hexU_len (v := s[k].toNat) (by omega)
      obtain ⟨U, hU⟩ : ∃ U, hexU s[k].toNat = U := ⟨_, rfl⟩
      rw [hU] at hQ3 HU hul
      clear hU e1 e2 H34 H92 hQ1 hQ2 hQ
      by_cases h3 : (32 : Int) ≤ (s[k].toNat : Int)
      · by_cases h4 : (s[k].toNat : Int) ≤ 126
        · obtain rfl : Q = [s[k]] := by rw [hQ3.out, if_pos (by omega)]
          clear hQ3 HU
          go_wp2_with fail
          go_round
          case rel => exact ⟨k + 1, x ++ [s[k]], by simp, by go_num, by omega, by rw [List.length_append]; omega, HX2⟩
          case measure => simp [intOf]; omega
        · obtain rfl : Q = 92 :: 120 :: U := by rw [hQ3.out, if_neg (by omega), if_neg (by omega)]
          clear hQ3
          go_wp2_with fail
          ((with_reducible refine HU.out.mono ?_))
          rintro e w2 ⟨rfl, rfl⟩
          go_wp2_with fail
          go_round
          case rel => exact ⟨k + 1, x ++ 92 :: 120 :: U, by simp, by go_num, by omega, by rw [List.length_append]; omega, HX2⟩
          case measure => simp [intOf]; omega
      · by_cases h5 : (s[k].toNat : Int) < 16
        · obtain rfl : Q = 92 :: 120 :: 48 :: U := by rw [hQ3.out, if_neg (by omega), if_pos (by omega)]
          clear hQ3
          go_wp2_with fail
          ((with_reducible refine HU.out.mono ?_))
          rintro e w2 ⟨rfl, rfl⟩
          go_wp2_with fail
          go_round
          case rel => exact ⟨k + 1, x ++ 92 :: 120 :: 48 :: U, by simp, by go_num, by omega, by rw [List.length_append]; omega, HX2⟩
          case measure => simp [intOf]; omega
        · obtain rfl : Q = 92 :: 120 :: U := by rw [hQ3.out, if_neg (by omega), if_neg (by omega)]
          clear hQ3
          go_wp2_with fail
          ((with_reducible refine HU.out.mono ?_))
          rintro e w2 ⟨rfl, rfl⟩
          go_wp2_with fail
          go_round
          case rel => exact ⟨k + 1, x ++ 92 :: 120 :: U, by simp, by go_num, by omega, by rw [List.length_append]; omega, HX2⟩
          case measure => simp [intOf]; omega
    · have hkl : k = s.length := by omega
      have HX2 : Hid (x ++ [34] = quoL s) := Lib.hid (by unfold quoL; rw [HX.out, hkl])
      subst hkl
      go_wp2_with fail
      go_ret
      exact ⟨by rw [← HX2.out]; rfl, rfl⟩
end Go.Proofs.YtnicnfchkdmieaaGreatDoor
