/- TokenErrorOffset: the walk. -/
import Derived.Test.YtebmkalgdbkijaaTku
import Derived.Test.YtebmkalgdbkijaaTkx
namespace Go.Proofs.Ytebmkalgdbkijaa
open Go.RowKit
set_option linter.unusedVariables false
set_option linter.unusedSimpArgs false
attribute [local go_sem] ByteArray.mk_append_mk bs_get bs_cut bs_end

theorem scanF_form (s : List UInt8) : ∀ (f p : Nat) (acc : List Tok), (∃ l, scanF s f p acc = (l, 0, 0)) ∨ ∃ k, scanF s f p acc = ([], k, 2)
  | 0, p, acc => .inl ⟨acc, rfl⟩
  | f + 1, p, acc => by
    unfold scanF
    split
    · exact .inr ⟨_, rfl⟩
    · split
      · exact .inl ⟨_, rfl⟩
      · split
        · exact .inr ⟨_, rfl⟩
        · exact scanF_form s f _ _
set_option maxRecDepth 100000 in
set_option maxHeartbeats 4000000 in
theorem law_error (v : Value) (l : List UInt8) (bh : List UInt8) (m : Int) (w : World) (hb : bh.length ≤ 4611686018427380000) (hv : BArg w v l) (hm : w.cell? ⟨0, 0, none⟩ = some (.int .i64 m)) :
    Calls Try.prog 5 #[v, .string ⟨bh.toArray⟩] w fun e w' => e = .returned (.bool true) ∧ Below w.heap.size w w' := by
  have HV := Lib.hid hv
  have HM := Lib.hid hm
  clear hv hm
  have HSL := Lib.hid (piecesL_len l 60)
  obtain ⟨s, hs⟩ : ∃ s, Hid (piecesL l 60 = s) := ⟨_, Lib.hid rfl⟩
  rw [hs.out] at HSL
  have hsl := HSL.out
  have HF := Lib.hid (scanF_form s (s.length + 1) 0 [])
  have HG : Hid (scanL s = scanG s 0 []) := Lib.hid (scanL_go (by omega))
  obtain ⟨b2, hb2⟩ : ∃ b2, List.take (min (bh.length : Int) 200).toNat bh = b2 := ⟨_, rfl⟩
  have hbl : b2.length ≤ 200 := by rw [← hb2, List.length_take]; omega
  go_enter Try.func5, Try.ntmps5
  go_wp2_with fail
  ((with_reducible refine (pieces_any v l _ HV.out).mono ?_))
  rintro e w2 ⟨rfl, hbw⟩
  rw [hs.out]
  unfold strV'
  have HB := Lib.hid hbw
  have HM2 := Lib.hid (max_below HM.out hbw)
  clear hbw
  go_wp2_with fail
  ((with_reducible refine (tScan_any s m _ (by omega) HM2.out).mono ?_))
  rintro e w3 ⟨v3, rfl, ho, hbw⟩
  have HB3 := Lib.hid (bel_then HB.out (Nat.le_refl _) hbw)
  have HM3 := Lib.hid (max_below HM2.out hbw)
  clear hbw ho HB HM2
  rw [HG.out]
  rcases HF.out with ⟨lx, hx⟩ | ⟨k, hx⟩
  · have HX : Hid (scanG s 0 [] = (lx, 0, 0)) := Lib.hid hx
    clear hx
    rw [HX.out]
    simp only []
    have HA : Hid (scanL (s ++ 10 :: 36 :: b2) = ([], s.length + 1, 2)) := Lib.hid (by
      rw [scanL_go (by rw [List.length_append]; simp only [List.length_cons]; omega)]
      exact scan_after s b2 _ 0 [] lx (Nat.le_refl _) (by omega) HX.out)
    go_wp2_with fail
    ((with_reducible refine (awake_any m _ HM3.out).mono ?_))
    rintro e w4 ⟨rfl, hbw⟩
    have HB4 := Lib.hid (bel_then HB3.out (Nat.le_refl _) hbw)
    have HM4 := Lib.hid (max_below HM3.out hbw)
    clear hbw HB3 HM3
    go_wp2_with fail
    ((with_reducible refine (tScan_any (s ++ 10 :: 36 :: b2) m _ (by rw [List.length_append]; simp only [List.length_cons]; omega) HM4.out).mono ?_))
    rintro e w5 ⟨v5, rfl, ho, hbw⟩
    rw [HA.out]
    simp only []
    have HB5 := Lib.hid (bel_then HB4.out (Nat.le_refl _) hbw)
    clear hbw ho HB4 HM4
    go_wp2_with fail
    go_ret
    exact ⟨by simp, HB5.out⟩
  · have HX : Hid (scanG s 0 [] = ([], k, 2)) := Lib.hid hx
    clear hx
    rw [HX.out]
    simp only []
    obtain ⟨h1, h2, l3, h3⟩ := scan_before s _ 0 k [] (Nat.le_refl _) (by omega) (by rw [HX.out])
    have HA : Hid (scanL (s.take k) = (l3, 0, 0)) := Lib.hid (by rw [scanL_go (by rw [List.length_take]; omega)]; exact h3)
    clear h1 h3
    go_wp2_with fail
    ((with_reducible refine (awake_any m _ HM3.out).mono ?_))
    rintro e w4 ⟨rfl, hbw⟩
    have HB4 := Lib.hid (bel_then HB3.out (Nat.le_refl _) hbw)
    have HM4 := Lib.hid (max_below HM3.out hbw)
    clear hbw HB3 HM3
    go_wp2_with fail
    ((with_reducible refine (tScan_any (s.take k) m _ (by rw [List.length_take]; omega) HM4.out).mono ?_))
    rintro e w5 ⟨v5, rfl, ho, hbw⟩
    rw [HA.out]
    simp only []
    have HB5 := Lib.hid (bel_then HB4.out (Nat.le_refl _) hbw)
    clear hbw ho HB4 HM4
    go_wp2_with fail
    go_ret
    exact ⟨rfl, HB5.out⟩
end Go.Proofs.Ytebmkalgdbkijaa
