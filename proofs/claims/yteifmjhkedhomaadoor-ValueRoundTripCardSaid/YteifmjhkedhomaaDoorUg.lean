/- explicit of the reference: the walk. -/
import Derived.Test.YteifmjhkedhomaaDoorUf
namespace Go.Proofs.YteifmjhkedhomaaDoor
open Go.RowKit
set_option linter.unusedVariables false
set_option linter.unusedSimpArgs false
attribute [local go_sem] ByteArray.mk_append_mk bs_get bs_cut bs_end conv1 conv2

theorem ret_ex (tmps : Array Value) (w : World) (b : Nat) (c0 c1 c2 c3 : Value) (h2 : tmps.getD 2 undef = .pointer (some ⟨b, 0, none⟩)) (hb : w.heap[b]? = some (.cells #[c0, c1, c2, c3] 24 (0, 0))) :
    (results Tryd.f34 tmps).run Tryd.prog w = .ok (.tuple #[.agg #[c0, c1, c2, c3], tmps.getD 3 undef]) w := by
  obtain ⟨e0, e1, e2, e3⟩ := cells4 hb
  have h2' : tmps[2]?.getD undef = .pointer (some ⟨b, 0, none⟩) := by rw [← h2]; simp
  simp [results]
  go_simp
set_option maxRecDepth 100000 in
set_option maxHeartbeats 4000000 in
theorem rexp_num (k n o : Int) (s : List UInt8) (w : World) (hs : s.length ≤ 9223372036854774000) (hk : k ≠ 2) : Calls Tryd.prog 34 #[valV k n s o] w (CvPost w (intE (intV k n s))) := by
  have HA0 := Lib.hid (CAt.start w k n s o)
  obtain ⟨b0, b1, b2, b3⟩ := HA0.out.1.cells
  have hk2 : (k == 2) = false := beq_eq_false_iff_ne.2 hk
  have HKI := Lib.hid (fun w => rinteger_any k n o s w (by omega))
  obtain ⟨⟨x, er⟩, hr⟩ : ∃ r, intV k n s = r := ⟨_, rfl⟩
  rw [hr] at HKI ⊢
  clear hr hk
  unfold IntPost at HKI
  simp only at HKI
  by_cases he : er = 0
  · subst he
    have HX : Hid (intE (x, 0) = (valV 1 x [] 0, 0)) := Lib.hid rfl
    go_enter Tryd.func34, Tryd.ntmps34
    go_wp2_with fail
    ((with_reducible refine (HKI.out _).mono ?_))
    rintro e w1 ⟨rfl, hb⟩
    have HA := Lib.hid (HA0.out.below hb)
    clear hb HA0 b0 b1 b2 b3
    go_wp2_with fail
    ((with_reducible refine (number_any x _).mono ?_))
    rintro e w4 ⟨rfl, hb⟩
    have HA2 := HA
    clear HA
    have HA := Lib.hid (HA2.out.below hb)
    clear hb HA2
    have HZ := Lib.hid HA.out.2
    have HB := Lib.hid HA.out.1.2
    have hn := HZ.out
    obtain ⟨c0, c1, c2, c3⟩ := cells4 hn
    have f0 := free3 hn 0
    have f1 := free3 hn 1
    have f2 := free3 hn 2
    have f3 := free3 hn 3
    clear hn
    go_wp2_with fail
    exact bodyPost_ret (ret_ex _ _ _ _ _ _ _ rfl (put4 HZ.out _ _ _ _)) rfl ⟨by rw [HX.out]; rfl, bel4 HB.out (by omega) _ _ _ _⟩
  · have he' : (er == 0) = false := by rw [beq_eq_false_iff_ne]; exact he
    have HX : Hid (intE (x, er) = badV er) := Lib.hid (if_neg he)
    clear he
    go_enter Tryd.func34, Tryd.ntmps34
    go_wp2_with fail
    ((with_reducible refine (HKI.out _).mono ?_))
    rintro e w1 ⟨rfl, hb⟩
    have HA := Lib.hid (HA0.out.below hb)
    clear hb HA0 b0 b1 b2 b3
    have HZ := Lib.hid HA.out.2
    have HB := Lib.hid HA.out.1.2
    have hn := HZ.out
    obtain ⟨c0, c1, c2, c3⟩ := cells4 hn
    have f0 := free3 hn 0
    have f1 := free3 hn 1
    have f2 := free3 hn 2
    have f3 := free3 hn 3
    clear hn
    go_wp2_with fail
    exact bodyPost_ret (ret_ex _ _ _ _ _ _ _ rfl (put4 HZ.out _ _ _ _)) rfl ⟨by rw [HX.out]; rfl, bel4 HB.out (by omega) _ _ _ _⟩
set_option maxRecDepth 100000 in
set_option maxHeartbeats 8000000 in
theorem rexp_str (n o : Int) (s : List UInt8) (w : World) (hs : s.length ≤ 9223372036854774000) : Calls Tryd.prog 34 #[valV 2 n s o] w (CvPost w (intE (parE (parV s)))) := by
  have HA := Lib.hid (CAt.start w 2 n s o)
  obtain ⟨b0, b1, b2, b3⟩ := HA.out.1.cells
  obtain ⟨X, HX0⟩ : ∃ X, Hid (parV s = X) := ⟨_, Lib.hid rfl⟩
  rw [HX0.out]
  have HX : Hid (intE (parE X) = intE (parE X)) := Lib.hid rfl
  go_enter Tryd.func34, Tryd.ntmps34
  go_upto_region 7 with fail
  generalize ((w.alloc (.cells #[.int .i64 2, .int .u64 n, .string ⟨s.toArray⟩, .int .i64 o] 24)).alloc (.cells #[.int .i64 0, .int .u64 0, .string ⟨#[]⟩, .int .i64 0] 24)) = W at *
  go_cut [44] (fun z wx => W = wx ∧ z = .bool (pre0x s))
  case first =>
    clear HX HX0 HA b0 b1 b2 b3
    match s, hs with
    | [], hs =>
      go_wp2_with fail
      go_meet
      exact ⟨rfl, rfl⟩
    | [x], hs =>
      go_wp2_with fail
      go_meet
      exact ⟨rfl, by simp [pre0x]⟩
    | x :: y :: r, hs =>
      have hx : (decide (x = 48 ∧ (y = 120 ∨ y = 88))) = pre0x (x :: y :: r) := by
        unfold pre0x
        rw [decide_eq_decide]
        simp only [List.take_succ_cons, List.take_zero, List.cons.injEq, and_true]
        constructor
        · rintro ⟨a, b | b⟩
          · exact .inl ⟨a, b⟩
          · exact .inr ⟨a, b⟩
        · rintro (⟨a, b⟩ | ⟨a, b⟩)
          · exact ⟨a, .inl b⟩
          · exact ⟨a, .inr b⟩
      have HXX := Lib.hid hx
      clear hx
      rcases byte_cases' x 48 48 rfl with ⟨e1, h1⟩ | ⟨e1, h1⟩
      · rcases byte_cases' y 120 120 rfl with ⟨e2, h2⟩ | ⟨e2, h2⟩
        · have HQ : Hid (pre0x (x :: y :: r) = true) := Lib.hid (by rw [← HXX.out]; simp [e1, e2])
          clear e1 e2 HXX
          go_wp2_with fail
          go_meet
          exact ⟨rfl, by rw [HQ.out]⟩
        · rcases byte_cases' y 88 88 rfl with ⟨e3, h3⟩ | ⟨e3, h3⟩
          · have HQ : Hid (pre0x (x :: y :: r) = true) := Lib.hid (by rw [← HXX.out]; simp [e1, e3])
            clear e1 e2 e3 HXX
            go_wp2_with fail
            go_meet
            exact ⟨rfl, by rw [HQ.out]⟩
          · have HQ : Hid (pre0x (x :: y :: r) = false) := Lib.hid (by rw [← HXX.out]; simp [e2, e3])
            clear e1 e2 e3 HXX
            go_wp2_with fail
            go_meet
            exact ⟨rfl, by rw [HQ.out]⟩
      · have HQ : Hid (pre0x (x :: y :: r) = false) := Lib.hid (by rw [← HXX.out]; simp [e1])
        clear e1 HXX
        go_wp2_with fail
        go_meet
        exact ⟨rfl, by rw [HQ.out]⟩
  case rest =>
  obtain ⟨rfl, rfl⟩ := hcut
  have HL : Hid (pre0x s = true → 2 ≤ s.length) := Lib.hid (fun h => pre0x_len h)
  have HX2 : Hid (if pre0x s = true then parGo 16 (s.drop 2) 0 = X else parGo 10 s 0 = X) := Lib.hid (by
    rw [← HX0.out, parV]
    split <;> rfl)
  clear HX0
  obtain ⟨pp, hpp⟩ : ∃ b, pre0x s = b := ⟨_, rfl⟩
  rw [hpp] at HX2 HL ⊢
  clear hpp
  go_upto_if 44 with fail
  go_cut [4, 5] (fun z b wx => W = wx ∧ ∃ T : List UInt8, z = .string ⟨T.toArray⟩ ∧ T.length ≤ 9223372036854774000 ∧ ((b = .int .u64 10 ∧ Hid (parGo 10 T 0 = X)) ∨ (b = .int .u64 16 ∧ Hid (parGo 16 T 0 = X))))
  case first =>
    clear b0 b1 b2 b3 HA
    cases pp
    · have HQ : Hid (parGo 10 s 0 = X) := Lib.hid HX2.out
      clear HL HX2
      go_wp2_with fail
      go_meet
      exact ⟨rfl, s, rfl, hs, .inl ⟨rfl, HQ⟩⟩
    · have hl2 := HL.out rfl
      have HQ : Hid (parGo 16 (s.drop 2) 0 = X) := Lib.hid HX2.out
      clear HL HX2
      go_wp2_with fail
      go_meet
      exact ⟨rfl, s.drop 2, rfl, by rw [List.length_drop]; omega, .inr ⟨rfl, HQ⟩⟩
  case rest =>
    clear HX2 HL b0 b1 b2 b3
    obtain ⟨rfl, T, rfl, hT, ⟨rfl, HG⟩ | ⟨rfl, HG⟩⟩ := hcut
    · go_wp2_with fail
      go_loop [8, 9] (fun x i => ∃ (j m : Nat), x = .int .u64 m ∧ i = .int .i64 j ∧ j ≤ T.length ∧ Hid (m ≤ 18446744073709551615) ∧ Hid (parGo 10 (T.drop j) m = X)) (fun _ i => T.length - (intOf i).toNat)
      case atStart => exact ⟨0, 0, rfl, rfl, by omega, Lib.hid (by omega), Lib.hid (by rw [List.drop_zero]; exact HG.out)⟩
      case round =>
        obtain ⟨j, m, rfl, rfl, hj, HM, HR⟩ := hrel
        by_cases hlt : j < T.length
        · have hd := drop_at hlt
          have HD := Lib.hid hd
          obtain ⟨q, ho⟩ : ∃ q, hexV T[j].toNat = q := ⟨_, rfl⟩
          clear hd
          cases q with
          | none =>
            have KH := Lib.hid (fun w => rhex_none T[j] ho w)
            obtain rfl : X = some m := by rw [← HR.out, HD.out, parGo_none ho]
            clear HG HR HM HD
            go_wp2_with fail
            ((with_reducible refine (KH.out _).mono ?_))
            rintro e w2 ⟨rfl, rfl⟩
            go_wp2_with fail
            ((with_reducible refine (number_any m _).mono ?_))
            rintro e w4 ⟨rfl, hb⟩
            have HA2 := HA
            clear HA
            have HA := Lib.hid (HA2.out.below hb)
            clear hb HA2
            have HZ := Lib.hid HA.out.2
            have HB := Lib.hid HA.out.1.2
            have hn := HZ.out
            obtain ⟨c0, c1, c2, c3⟩ := cells4 hn
            have f0 := free3 hn 0
            have f1 := free3 hn 1
            have f2 := free3 hn 2
            have f3 := free3 hn 3
            clear hn
            go_wp2_with fail
            exact bodyPost_ret (ret_ex _ _ _ _ _ _ _ rfl (put4 HZ.out _ _ _ _)) rfl ⟨rfl, bel4 HB.out (by omega) _ _ _ _⟩
          | some d =>
            have hd16 := hexV_lt ho
            have KH := Lib.hid (fun w => rhex_some T[j] d ho w)
            by_cases hb : 10 ≤ d
            · obtain rfl : X = some m := by rw [← HR.out, HD.out, parGo_stop ho hb]
              clear HG HR HM HD
              go_wp2_with fail
              ((with_reducible refine (KH.out _).mono ?_))
              rintro e w2 ⟨rfl, rfl⟩
              go_wp2_with fail
              ((with_reducible refine (number_any m _).mono ?_))
              rintro e w4 ⟨rfl, hb⟩
              have HA2 := HA
              clear HA
              have HA := Lib.hid (HA2.out.below hb)
              clear hb HA2
              have HZ := Lib.hid HA.out.2
              have HB := Lib.hid HA.out.1.2
              have hn := HZ.out
              obtain ⟨c0, c1, c2, c3⟩ := cells4 hn
              have f0 := free3 hn 0
              have f1 := free3 hn 1
              have f2 := free3 hn 2
              have f3 := free3 hn 3
              clear hn
              go_wp2_with fail
              exact bodyPost_ret (ret_ex _ _ _ _ _ _ _ rfl (put4 HZ.out _ _ _ _)) rfl ⟨rfl, bel4 HB.out (by omega) _ _ _ _⟩
            · by_cases hv : (18446744073709551615 - d) / 10 < m
              · obtain rfl : X = none := by rw [← HR.out, HD.out, parGo_over ho hb hv]
                have hvi : (18446744073709551615 - (d : Int)) / 10 < (m : Int) := by omega
                clear HG HR HM HD
                have hn := HA.out.2
                obtain ⟨c0, c1, c2, c3⟩ := cells4 hn
                have f0 := free3 hn 0
                have f1 := free3 hn 1
                have f2 := free3 hn 2
                have f3 := free3 hn 3
                clear hn
                go_wp2_with fail
                ((with_reducible refine (KH.out _).mono ?_))
                rintro e w2 ⟨rfl, rfl⟩
                go_wp2_with fail
                exact bodyPost_ret (ret_ex _ _ _ _ _ _ _ rfl (put4 HA.out.2 _ _ _ _)) rfl ⟨rfl, bel4 HA.out.1.2 (by omega) _ _ _ _⟩
              · have HR2 : Hid (parGo 10 (T.drop (j + 1)) (m * 10 + d) = X) := Lib.hid (by rw [← HR.out, HD.out, parGo_step ho hb hv])
                have hno := no_over (base := 10) (by decide) (by omega) hv
                have HNO := Lib.hid hno
                have hvi : ¬ (18446744073709551615 - (d : Int)) / 10 < (m : Int) := by omega
                clear HG HR HM HD hv
                go_wp2_with fail
                ((with_reducible refine (KH.out _).mono ?_))
                rintro e w2 ⟨rfl, rfl⟩
                go_wp2_with fail
                go_round
                case rel => exact ⟨j + 1, m * 10 + d, by go_num, by go_num, by omega, HNO, HR2⟩
                case measure => simp [intOf]; omega
        · obtain rfl : X = some m := by rw [← HR.out, List.drop_eq_nil_of_le (by omega)]; rfl
          clear HG HR HM
          go_wp2_with fail
          ((with_reducible refine (number_any m _).mono ?_))
          rintro e w4 ⟨rfl, hb⟩
          have HA2 := HA
          clear HA
          have HA := Lib.hid (HA2.out.below hb)
          clear hb HA2
          have HZ := Lib.hid HA.out.2
          have HB := Lib.hid HA.out.1.2
          have hn := HZ.out
          obtain ⟨c0, c1, c2, c3⟩ := cells4 hn
          have f0 := free3 hn 0
          have f1 := free3 hn 1
          have f2 := free3 hn 2
          have f3 := free3 hn 3
          clear hn
          go_wp2_with fail
          exact bodyPost_ret (ret_ex _ _ _ _ _ _ _ rfl (put4 HZ.out _ _ _ _)) rfl ⟨rfl, bel4 HB.out (by omega) _ _ _ _⟩
    · go_wp2_with fail
      go_loop [8, 9] (fun x i => ∃ (j m : Nat), x = .int .u64 m ∧ i = .int .i64 j ∧ j ≤ T.length ∧ Hid (m ≤ 18446744073709551615) ∧ Hid (parGo 16 (T.drop j) m = X)) (fun _ i => T.length - (intOf i).toNat)
      case atStart => exact ⟨0, 0, rfl, rfl, by omega, Lib.hid (by omega), Lib.hid (by rw [List.drop_zero]; exact HG.out)⟩
      case round =>
        obtain ⟨j, m, rfl, rfl, hj, HM, HR⟩ := hrel
        by_cases hlt : j < T.length
        · have hd := drop_at hlt
          have HD := Lib.hid hd
          obtain ⟨q, ho⟩ : ∃ q, hexV T[j].toNat = q := ⟨_, rfl⟩
          clear hd
          cases q with
          | none =>
            have KH := Lib.hid (fun w => rhex_none T[j] ho w)
            obtain rfl : X = some m := by rw [← HR.out, HD.out, parGo_none ho]
            clear HG HR HM HD
            go_wp2_with fail
            ((with_reducible refine (KH.out _).mono ?_))
            rintro e w2 ⟨rfl, rfl⟩
            go_wp2_with fail
            ((with_reducible refine (number_any m _).mono ?_))
            rintro e w4 ⟨rfl, hb⟩
            have HA2 := HA
            clear HA
            have HA := Lib.hid (HA2.out.below hb)
            clear hb HA2
            have HZ := Lib.hid HA.out.2
            have HB := Lib.hid HA.out.1.2
            have hn := HZ.out
            obtain ⟨c0, c1, c2, c3⟩ := cells4 hn
            have f0 := free3 hn 0
            have f1 := free3 hn 1
            have f2 := free3 hn 2
            have f3 := free3 hn 3
            clear hn
            go_wp2_with fail
            exact bodyPost_ret (ret_ex _ _ _ _ _ _ _ rfl (put4 HZ.out _ _ _ _)) rfl ⟨rfl, bel4 HB.out (by omega) _ _ _ _⟩
          | some d =>
            have hd16 := hexV_lt ho
            have KH := Lib.hid (fun w => rhex_some T[j] d ho w)
            by_cases hb : 16 ≤ d
            · exact absurd hd16 (by omega)
            · by_cases hv : (18446744073709551615 - d) / 16 < m
              · obtain rfl : X = none := by rw [← HR.out, HD.out, parGo_over ho hb hv]
                have hvi : (18446744073709551615 - (d : Int)) / 16 < (m : Int) := by omega
                clear HG HR HM HD
                have hn := HA.out.2
                obtain ⟨c0, c1, c2, c3⟩ := cells4 hn
                have f0 := free3 hn 0
                have f1 := free3 hn 1
                have f2 := free3 hn 2
                have f3 := free3 hn 3
                clear hn
                go_wp2_with fail
                ((with_reducible refine (KH.out _).mono ?_))
                rintro e w2 ⟨rfl, rfl⟩
                go_wp2_with fail
                exact bodyPost_ret (ret_ex _ _ _ _ _ _ _ rfl (put4 HA.out.2 _ _ _ _)) rfl ⟨rfl, bel4 HA.out.1.2 (by omega) _ _ _ _⟩
              · have HR2 : Hid (parGo 16 (T.drop (j + 1)) (m * 16 + d) = X) := Lib.hid (by rw [← HR.out, HD.out, parGo_step ho hb hv])
                have hno := no_over (base := 16) (by decide) (by omega) hv
                have HNO := Lib.hid hno
                have hvi : ¬ (18446744073709551615 - (d : Int)) / 16 < (m : Int) := by omega
                clear HG HR HM HD hv
                go_wp2_with fail
                ((with_reducible refine (KH.out _).mono ?_))
                rintro e w2 ⟨rfl, rfl⟩
                go_wp2_with fail
                go_round
                case rel => exact ⟨j + 1, m * 16 + d, by go_num, by go_num, by omega, HNO, HR2⟩
                case measure => simp [intOf]; omega
        · obtain rfl : X = some m := by rw [← HR.out, List.drop_eq_nil_of_le (by omega)]; rfl
          clear HG HR HM
          go_wp2_with fail
          ((with_reducible refine (number_any m _).mono ?_))
          rintro e w4 ⟨rfl, hb⟩
          have HA2 := HA
          clear HA
          have HA := Lib.hid (HA2.out.below hb)
          clear hb HA2
          have HZ := Lib.hid HA.out.2
          have HB := Lib.hid HA.out.1.2
          have hn := HZ.out
          obtain ⟨c0, c1, c2, c3⟩ := cells4 hn
          have f0 := free3 hn 0
          have f1 := free3 hn 1
          have f2 := free3 hn 2
          have f3 := free3 hn 3
          clear hn
          go_wp2_with fail
          exact bodyPost_ret (ret_ex _ _ _ _ _ _ _ rfl (put4 HZ.out _ _ _ _)) rfl ⟨rfl, bel4 HB.out (by omega) _ _ _ _⟩
end Go.Proofs.YteifmjhkedhomaaDoor
