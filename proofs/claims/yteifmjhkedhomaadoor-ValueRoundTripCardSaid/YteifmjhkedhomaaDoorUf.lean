/- parse: the walk. -/
import Derived.Test.YteifmjhkedhomaaDoorUe
namespace Go.Proofs.YteifmjhkedhomaaDoor
open Go.RowKit
set_option linter.unusedVariables false
set_option linter.unusedSimpArgs false
attribute [local go_sem] ByteArray.mk_append_mk bs_get bs_cut bs_end conv1 conv2

theorem hp_is (s p : List UInt8) (b : Bool) (H : Lib.hasPrefix s p = b) (w : World) : Calls Tryd.prog 45 #[.string ⟨s.toArray⟩, .string ⟨p.toArray⟩] w fun e w' => e = .returned (.bool b) ∧ w = w' := by
  subst H
  exact (Tryd.strings_HasPrefix ⟨s.toArray⟩ ⟨p.toArray⟩ w).mono fun e w' ⟨he, hw⟩ => ⟨by rw [he], hw.symm⟩
theorem pre0x_is (s : List UInt8) : pre0x s = (Lib.hasPrefix s [48, 120] || Lib.hasPrefix s [48, 88]) := by
  unfold pre0x Lib.hasPrefix
  match s with
  | [] => rfl
  | [a] => simp [List.isPrefixOf]
  | a :: b :: r => 
    rw [Bool.eq_iff_iff, decide_eq_true_eq, Bool.or_eq_true]
    simp only [List.take_succ_cons, List.take_zero, List.cons.injEq, and_true, List.isPrefixOf, Bool.and_eq_true, beq_iff_eq, Bool.and_true]
    constructor
    · rintro (⟨rfl, rfl⟩ | ⟨rfl, rfl⟩)
      · exact .inl ⟨rfl, rfl⟩
      · exact .inr ⟨rfl, rfl⟩
    · rintro (⟨h1, h2⟩ | ⟨h1, h2⟩)
      · exact .inl ⟨h1.symm, h2.symm⟩
      · exact .inr ⟨h1.symm, h2.symm⟩
theorem pre0x_len {s : List UInt8} (h : pre0x s = true) : 2 ≤ s.length := by
  unfold pre0x at h
  rw [decide_eq_true_eq] at h
  rcases h with h | h <;> (have := congrArg List.length h; rw [List.length_take] at this; simp at this; omega)
theorem drop_at {T : List UInt8} {k : Nat} (h : k < T.length) : T.drop k = T[k] :: T.drop (k + 1) := List.drop_eq_getElem_cons h
set_option maxRecDepth 100000 in
set_option maxHeartbeats 8000000 in
theorem parse_any (s : List UInt8) (w : World) (hs : s.length ≤ 9223372036854774000) : Calls Tryd.prog 20 #[.string ⟨s.toArray⟩] w fun e w' => e = .returned (.tuple #[.int .u64 (parE (parV s)).1, .int .i64 (parE (parV s)).2]) ∧ w = w' := by
  obtain ⟨X, HX⟩ : ∃ X, Hid (parV s = X) := ⟨_, Lib.hid rfl⟩
  rw [HX.out]
  obtain ⟨p1, HP1⟩ : ∃ b, Lib.hasPrefix s [48, 120] = b := ⟨_, rfl⟩
  obtain ⟨p2, HP2⟩ : ∃ b, Lib.hasPrefix s [48, 88] = b := ⟨_, rfl⟩
  have K1 := Lib.hid (hp_is s [48, 120] p1 HP1)
  have K2 := Lib.hid (hp_is s [48, 88] p2 HP2)
  have HP : Hid (pre0x s = (p1 || p2)) := Lib.hid (by rw [← HP1, ← HP2]; exact pre0x_is s)
  have HL : Hid ((p1 || p2) = true → 2 ≤ s.length) := Lib.hid (fun h => pre0x_len (by rw [HP.out]; exact h))
  clear HP1 HP2
  go_enter Tryd.func20, Tryd.ntmps20
  go_upto_region 2 with fail
  go_cut [14] (fun z wx => w = wx ∧ z = .bool (p1 || p2))
  case first =>
    clear HP HX HL
    cases p1 <;> cases p2
    all_goals
      go_wp2_with (first | (((with_reducible refine (K1.out _).mono ?_)); rintro e w2 ⟨rfl, rfl⟩) | (((with_reducible refine (K2.out _).mono ?_)); rintro e w2 ⟨rfl, rfl⟩))
      go_meet
      exact ⟨rfl, rfl⟩
  case rest =>
  obtain ⟨rfl, rfl⟩ := hcut
  have HX2 : Hid (if (p1 || p2) = true then parGo 16 (s.drop 2) 0 = X else parGo 10 s 0 = X) := Lib.hid (by
    rw [← HX.out, parV, HP.out]
    split <;> rfl)
  clear K1 K2 HP HX
  obtain ⟨pp, hpp⟩ : ∃ b, (p1 || p2) = b := ⟨_, rfl⟩
  rw [hpp] at HX2 HL ⊢
  clear hpp p1 p2
  go_upto_if 14 with fail
  go_cut [0, 4] (fun z b wx => w = wx ∧ ∃ T : List UInt8, z = .string ⟨T.toArray⟩ ∧ T.length ≤ 9223372036854774000 ∧ ((b = .int .u64 10 ∧ Hid (parGo 10 T 0 = X)) ∨ (b = .int .u64 16 ∧ Hid (parGo 16 T 0 = X))))
  case first =>
    cases pp
    · have HQ : Hid (parGo 10 s 0 = X) := Lib.hid HX2.out
      clear HL HX2
      go_wp2_with fail
      go_meet
      exact ⟨rfl, s, rfl, hs, .inl ⟨rfl, HQ⟩⟩
    · have hl2 := HL.out rfl
      have HQ : Hid (parGo 16 (s.drop 2) 0 = X) := Lib.hid HX2.out
      clear HL HX2
      go_wp2_with fail
      go_meet
      exact ⟨rfl, s.drop 2, rfl, by rw [List.length_drop]; omega, .inr ⟨rfl, HQ⟩⟩
  case rest =>
    obtain ⟨rfl, T, rfl, hT, ⟨rfl, HG⟩ | ⟨rfl, HG⟩⟩ := hcut
    · go_wp2_with fail
      go_loopw [5, 19] (fun x i wr => w = wr ∧ ∃ (k m : Nat), x = .int .u64 m ∧ i = .int .i64 k ∧ k ≤ T.length ∧ Hid (m ≤ 18446744073709551615) ∧ Hid (parGo 10 (T.drop k) m = X)) (fun _ i _ => T.length - (intOf i).toNat)
      case atStart => exact ⟨rfl, 0, 0, rfl, rfl, by omega, Lib.hid (by omega), Lib.hid (by rw [List.drop_zero]; exact HG.out)⟩
      case round =>
        obtain ⟨rfl, k, m, rfl, rfl, hk, HM, HR⟩ := hrel
        by_cases hlt : k < T.length
        · have hd := drop_at hlt
          have HD := Lib.hid hd
          obtain ⟨o, ho⟩ : ∃ o, hexV T[k].toNat = o := ⟨_, rfl⟩
          clear hd
          cases o with
          | none =>
            have KH := Lib.hid (fun w => hexDigit_none T[k] ho w)
            obtain rfl : X = some m := by rw [← HR.out, HD.out, parGo_none ho]
            clear HX2 HG HR HM HD
            go_wp2_with fail
            ((with_reducible refine (KH.out _).mono ?_))
            rintro e w2 ⟨rfl, rfl⟩
            go_wp2_with fail
            go_ret2
            exact ⟨rfl, rfl⟩
          | some d =>
            have hd16 := hexV_lt ho
            have KH := Lib.hid (fun w => hexDigit_some T[k] d ho w)
            by_cases hb : 10 ≤ d
            · obtain rfl : X = some m := by rw [← HR.out, HD.out, parGo_stop ho hb]
              clear HX2 HG HR HM HD
              go_wp2_with fail
              ((with_reducible refine (KH.out _).mono ?_))
              rintro e w2 ⟨rfl, rfl⟩
              go_wp2_with fail
              go_ret2
              exact ⟨rfl, rfl⟩
            · by_cases hv : (18446744073709551615 - d) / 10 < m
              · obtain rfl : X = none := by rw [← HR.out, HD.out, parGo_over ho hb hv]
                have hvi : (18446744073709551615 - (d : Int)) / 10 < (m : Int) := by omega
                clear HX2 HG HR HM HD
                go_wp2_with fail
                ((with_reducible refine (KH.out _).mono ?_))
                rintro e w2 ⟨rfl, rfl⟩
                go_wp2_with fail
                go_ret2
                exact ⟨rfl, rfl⟩
              · have HR2 : Hid (parGo 10 (T.drop (k + 1)) (m * 10 + d) = X) := Lib.hid (by rw [← HR.out, HD.out, parGo_step ho hb hv])
                have hno := no_over (base := 10) (by decide) (by omega) hv
                have HNO := Lib.hid hno
                have hvi : ¬ (18446744073709551615 - (d : Int)) / 10 < (m : Int) := by omega
                clear HX2 HG HR HM HD hv
                go_wp2_with fail
                ((with_reducible refine (KH.out _).mono ?_))
                rintro e w2 ⟨rfl, rfl⟩
                go_wp2_with fail
                go_round
                case rel => exact ⟨trivial, k + 1, m * 10 + d, by go_num, by go_num, by omega, HNO, HR2⟩
                case measure => simp [intOf]; omega
        · obtain rfl : X = some m := by rw [← HR.out, List.drop_eq_nil_of_le (by omega)]; rfl
          clear HX2 HG HR HM
          go_wp2_with fail
          go_ret2
          exact ⟨rfl, rfl⟩
    · go_wp2_with fail
      go_loopw [5, 19] (fun x i wr => w = wr ∧ ∃ (k m : Nat), x = .int .u64 m ∧ i = .int .i64 k ∧ k ≤ T.length ∧ Hid (m ≤ 18446744073709551615) ∧ Hid (parGo 16 (T.drop k) m = X)) (fun _ i _ => T.length - (intOf i).toNat)
      case atStart => exact ⟨rfl, 0, 0, rfl, rfl, by omega, Lib.hid (by omega), Lib.hid (by rw [List.drop_zero]; exact HG.out)⟩
      case round =>
        obtain ⟨rfl, k, m, rfl, rfl, hk, HM, HR⟩ := hrel
        by_cases hlt : k < T.length
        · have hd := drop_at hlt
          have HD := Lib.hid hd
          obtain ⟨o, ho⟩ : ∃ o, hexV T[k].toNat = o := ⟨_, rfl⟩
          clear hd
          cases o with
          | none =>
            have KH := Lib.hid (fun w => hexDigit_none T[k] ho w)
            obtain rfl : X = some m := by rw [← HR.out, HD.out, parGo_none ho]
            clear HX2 HG HR HM HD
            go_wp2_with fail
            ((with_reducible refine (KH.out _).mono ?_))
            rintro e w2 ⟨rfl, rfl⟩
            go_wp2_with fail
            go_ret2
            exact ⟨rfl, rfl⟩
          | some d =>
            have hd16 := hexV_lt ho
            have KH := Lib.hid (fun w => hexDigit_some T[k] d ho w)
            by_cases hb : 16 ≤ d
            · exact absurd hd16 (by omega)
            · by_cases hv : (18446744073709551615 - d) / 16 < m
              · obtain rfl : X = none := by rw [← HR.out, HD.out, parGo_over ho hb hv]
                have hvi : (18446744073709551615 - (d : Int)) / 16 < (m : Int) := by omega
                clear HX2 HG HR HM HD
                go_wp2_with fail
                ((with_reducible refine (KH.out _).mono ?_))
                rintro e w2 ⟨rfl, rfl⟩
                go_wp2_with fail
                go_ret2
                exact ⟨rfl, rfl⟩
              · have HR2 : Hid (parGo 16 (T.drop (k + 1)) (m * 16 + d) = X) := Lib.hid (by rw [← HR.out, HD.out, parGo_step ho hb hv])
                have hno := no_over (base := 16) (by decide) (by omega) hv
                have HNO := Lib.hid hno
                have hvi : ¬ (18446744073709551615 - (d : Int)) / 16 < (m : Int) := by omega
                clear HX2 HG HR HM HD hv
                go_wp2_with fail
                ((with_reducible refine (KH.out _).mono ?_))
                rintro e w2 ⟨rfl, rfl⟩
                go_wp2_with fail
                go_round
                case rel => exact ⟨trivial, k + 1, m * 16 + d, by go_num, by go_num, by omega, HNO, HR2⟩
                case measure => simp [intOf]; omega
        · obtain rfl : X = some m := by rw [← HR.out, List.drop_eq_nil_of_le (by omega)]; rfl
          clear HX2 HG HR HM
          go_wp2_with fail
          go_ret2
          exact ⟨rfl, rfl⟩
end Go.Proofs.YteifmjhkedhomaaDoor
