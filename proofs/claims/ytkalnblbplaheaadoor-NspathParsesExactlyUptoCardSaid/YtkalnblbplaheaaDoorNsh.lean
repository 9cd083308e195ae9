/- Parse: the walk. -/
import Derived.Test.YtkalnblbplaheaaDoorNsg
namespace Go.Proofs.YtkalnblbplaheaaDoor
open Go.RowKit
set_option linter.unusedVariables false
attribute [local go_sem] ByteArray.mk_append_mk bs_get bs_cut bs_end

theorem splitD_mem : ∀ (s : List UInt8) (x : List UInt8), x ∈ splitD s → x.length ≤ s.length
  | [], x, h => by simp [splitD] at h; subst h; simp
  | c :: s, x, h => by
    have ih := splitD_mem s
    by_cases hc : c = 46
    · subst hc
      rw [splitD_dot] at h
      rcases List.mem_cons.1 h with h | h
      · subst h; simp
      · have := ih x h; simp; omega
    · cases hs : splitD s with
      | nil => exact absurd hs (splitD_ne s)
      | cons y r =>
        rw [splitD_other c s hc y r hs] at h
        rw [hs] at ih
        rcases List.mem_cons.1 h with h | h
        · have := ih y (by simp); subst h; simp; omega
        · have := ih x (by simp [h]); simp; omega
theorem parPost_no {w w' : World} {s : List UInt8} (h : parOk s = false) (hb : Below w.heap.size w w') : parPost w s (.returned (.tuple #[.agg #[.bool false, .int .i64 0, .slice none 0 0], .bool false])) w' := by
  unfold parPost
  rw [h]
  exact ⟨_, rfl, own_nil _ _, hb⟩
theorem parPost_yes {w w' : World} {s : List UInt8} {v : Value} (h : parOk s = true) (ho : w'.ownsRow w.heap.size 9 1 v (parSegs s).length ((parSegs s).map strV)) (hb : Below w.heap.size w w') : parPost w s (.returned (.tuple #[.agg #[.bool (parRoot s), .int .i64 (parUp s), v], .bool true])) w' := by
  unfold parPost
  rw [h]
  exact ⟨_, rfl, ho, hb⟩
set_option maxHeartbeats 2000000 in
theorem parse_any (s : List UInt8) (m : Int) (w : World) (hm : w.cell? ⟨0, 0, none⟩ = some (.int .i64 m)) (hs : s.length ≤ 4000000000) :
    Calls Tryd.prog 16 #[.string ⟨s.toArray⟩] w (parPost w s) := by
  have HM := Lib.hid hm
  have HQ := Lib.hid (QAt.start w)
  have HC := Lib.hid (Tryd.strings_CutPrefix ⟨s.toArray⟩ ⟨#[92]⟩)
  clear hm
  obtain ⟨root, hroot⟩ : ∃ b, parRoot s = b := ⟨_, rfl⟩
  obtain ⟨N, hN⟩ : ∃ b, parUp s = b := ⟨_, rfl⟩
  obtain ⟨R, hR⟩ : ∃ b, parRest s = b := ⟨_, rfl⟩
  obtain ⟨r0, hr0⟩ : ∃ b, Lib.trimPrefix s [92] = b := ⟨_, rfl⟩
  have HJ : Hid (CarJ root N R 0 r0) := Lib.hid (by
    subst hroot hN hR hr0
    refine ⟨fun h => ?_, fun h => ?_⟩
    · refine ⟨by unfold parUp; rw [if_pos h], ?_⟩
      unfold parRest Lib.trimPrefix; rw [if_pos h, if_pos (by exact h)]; rfl
    · have h' : Lib.hasPrefix s [92] = false := h
      have e1 : parUp s = (s.takeWhile (· == 94)).length := by unfold parUp; rw [h]; rfl
      have e2 : parRest s = s.dropWhile (· == 94) := by unfold parRest; rw [h]; rfl
      have e3 : Lib.trimPrefix s [92] = s := by unfold Lib.trimPrefix; rw [h']; rfl
      rw [e1, e2, e3]
      exact ⟨by omega, rfl⟩)
  have hr0l : r0.length ≤ 4000000000 := by
    rw [← hr0]; unfold Lib.trimPrefix; split
    · rw [List.length_drop]; omega
    · exact hs
  have HN : Hid (N ≤ 4000000000) := Lib.hid (by
    subst hN; unfold parUp; split
    · omega
    · have := (List.takeWhile_sublist (l := s) (· == (94 : UInt8))).length_le; omega)
  have HRR := Lib.hid hroot
  have HRN := Lib.hid hN
  have HRR2 := Lib.hid hR
  have HT := Lib.hid hr0
  clear hroot hN hR hr0
  go_enter Tryd.func16, Tryd.ntmps16
  go_wp2_with fail
  ((with_reducible refine (HC.out _).mono ?_))
  rintro e w' ⟨rfl, rfl⟩
  rw [show Lib.trimPrefix (ByteArray.mk s.toArray).data.toList (ByteArray.mk #[92]).data.toList = r0 from HT.out, show Lib.hasPrefix (ByteArray.mk s.toArray).data.toList (ByteArray.mk #[92]).data.toList = root from HRR.out]
  clear HC
  obtain ⟨w0, hw0⟩ : ∃ x, ((w.alloc (.cells #[.bool false, .int .i64 0, .slice none 0 0] 24)).alloc (.cells #[.bool false, .int .i64 0, .slice none 0 0] 24)) = x := ⟨_, rfl⟩
  rw [hw0] at HQ
  simp only [hw0]
  have hn := HQ.out.2.1
  obtain ⟨c0, c1, c2⟩ := cells3 hn
  have f0 := free3 hn 0
  clear hn hw0
  go_wp2_with fail
  go_loopw [5] (fun z wr => ∃ (k : Nat) (r : List UInt8), z = .string ⟨r.toArray⟩ ∧ r.length + k ≤ 4000000000 ∧ Hid (CarJ root N R k r) ∧ Hid (QAt w wr root k (.slice none 0 0))) (fun z _ => strLen z)
  case atStart => exact ⟨0, r0, rfl, by omega, HJ, Lib.hid (HQ.out.root root)⟩
  case round =>
    obtain ⟨k, r, rfl, hk, HJ2, HQ2⟩ := hrel
    have HP := Lib.hid (Tryd.strings_HasPrefix ⟨r.toArray⟩ ⟨#[94]⟩)
    go_upto_region 4 with fail
    go_cut [19] (fun z wx => z = .bool (!root && Lib.hasPrefix r [94]) ∧ wr = wx)
    case first =>
      cases root
      · go_wp2_with fail
        ((with_reducible refine (HP.out _).mono ?_))
        rintro e w' ⟨rfl, rfl⟩
        rw [show Lib.hasPrefix (ByteArray.mk r.toArray).data.toList (ByteArray.mk #[94]).data.toList = Lib.hasPrefix r [94] from rfl]
        go_wp2_with fail
        go_meet
        exact ⟨rfl, rfl⟩
      · go_wp2_with fail
        go_meet
        exact ⟨rfl, rfl⟩
    case rest =>
      obtain ⟨rfl, rfl⟩ := hcut
      have hn := HQ2.out.2.1
      obtain ⟨d0, d1, d2⟩ := cells3 hn
      have g1 := free3 hn 1
      have g2 := free3 hn 2
      clear hn HP
      cases hb : (!root && Lib.hasPrefix r [94])
      · obtain ⟨rfl, rfl⟩ := HJ2.out.last hb
        clear hb
        have hn := HQ2.out.1
        obtain ⟨e0, e1, e2⟩ := cells3 hn
        have i0 := free3 hn 0
        have i1 := free3 hn 1
        have i2 := free3 hn 2
        clear hn
        by_cases hr : r = []
        · have hr' : (r != []) = false := by rw [hr]; rfl
          have HS : Hid (parSegs s = []) := Lib.hid (by unfold parSegs; rw [if_pos (HRR2.out.trans hr)])
          have HO : Hid (parOk s = validB root k []) := Lib.hid (by unfold parOk; rw [HS.out, HRR.out, HRN.out])
          have HV := Lib.hid (nsValid_any (.agg #[.bool root, .int .i64 k, .slice none 0 0]) root k [] wr (PathV.mk (StrsAt.nil _)) (by simp))
          subst hr
          cases hv : validB root k []
          all_goals
            rw [hv] at HO
            rw [hv] at HV
            clear hv
            go_wp2_with fail
            ((with_reducible refine HV.out.mono ?_))
            rintro e w2 ⟨rfl, hb⟩
            have HQ3 := Lib.hid (HQ2.out.below hb)
            clear hb HV HQ2 HQ d0 d1 d2 g1 g2 e0 e1 e2 i0 i1 i2
            obtain ⟨d0, d1, d2⟩ := cells3 HQ3.out.2.1
            obtain ⟨e0, e1, e2⟩ := cells3 HQ3.out.1
            have i0 := free3 HQ3.out.1 0
            have i1 := free3 HQ3.out.1 1
            have i2 := free3 HQ3.out.1 2
            go_wp2_with fail
          · exact bodyPost_ret (ret_parse _ _ _ _ _ _ rfl (put3 HQ3.out.1 _ _ _)) rfl (parPost_no HO.out (bel3 HQ3.out.2.2 (Nat.le_refl _) _ _ _))
          · refine bodyPost_ret (ret_parse _ _ _ _ _ _ rfl (put3 HQ3.out.1 _ _ _)) rfl ?_
            have := parPost_yes (v := .slice none 0 0) HO.out (by rw [HS.out]; exact own_nil _ _) (bel3 HQ3.out.2.2 (Nat.le_refl _) (.bool root) (.int .i64 k) (.slice none 0 0))
            rw [HRR.out, HRN.out] at this
            exact this
        · have hr' : r.isEmpty = false := by simpa using hr
          have HL : Hid (splitD r = parSegs s) := Lib.hid (by unfold parSegs; rw [if_neg (fun e => hr (HRR2.out.symm.trans e)), HRR2.out])
          have HK := Lib.hid (splitD_length r)
          have HCn := Lib.hid (Tryd.strings_Count_one ⟨r.toArray⟩ 46)
          go_wp2_with fail
          ((with_reducible refine (HCn.out _).mono ?_))
          rintro e w2 ⟨rfl, rfl⟩
          rw [show Lib.countByte (ByteArray.mk r.toArray).data.toList 46 = r.count 46 from rfl]
          by_cases hc : 32 ≤ r.count 46
          · have HO : Hid (parOk s = false) := Lib.hid (by
              unfold parOk
              apply validB_pre
              apply preB_no
              rw [← HL.out, HK.out]
              have := HRN.out
              omega)
            have hc' : (32 : Int) ≤ ((r.count 46 : Nat) : Int) := by omega
            go_wp2_with fail
            exact bodyPost_ret (ret_parse _ _ _ _ _ _ rfl (put3 HQ2.out.1 _ _ _)) rfl (parPost_no HO.out (bel3 HQ2.out.2.2 (Nat.le_refl _) _ _ _))
          · have hc' : ¬ (32 : Int) ≤ ((r.count 46 : Nat) : Int) := by omega
            have HSp := Lib.hid (split_dots r m _ (HQ2.out.cell HM.out) (by omega))
            go_wp2_with fail
            ((with_reducible refine HSp.out.mono ?_))
            rintro e w3 ⟨v, rfl, ho, hb⟩
            have HZ : Hid (w.heap.size + 1 < w2.heap.size) := Lib.hid (lt_of_block HQ2.out.2.1)
            have HO := Lib.hid ho
            have HQ3 := Lib.hid (HQ2.out.below hb)
            have HQ4 := Lib.hid (HQ3.out.segs v)
            have HO4 := Lib.hid (own_setCell ho ⟨w.heap.size + 1, 2, none⟩ v HZ.out)
            clear HO ho hb HSp d0 d1 d2 g1 g2 e0 e1 e2 i0 i1 i2 HQ2 HQ
            obtain ⟨d0, d1, d2⟩ := cells3 HQ3.out.2.1
            have g2 := free3 HQ3.out.2.1 2
            obtain ⟨a4, m4, c4, rfl⟩ := own_slice HO4.out
            obtain ⟨w4, hw4⟩ : ∃ x, w3.setCell ⟨w.heap.size + 1, 2, none⟩ (.slice a4 m4 c4) = x := ⟨_, rfl⟩
            rw [hw4] at HQ4 HO4
            go_upto_region 11 with fail
            have HS4 : Hid (StrsAt w4 (.slice a4 m4 c4) (splitD r)) := Lib.hid (StrsAt.of_own HO4.out (by have := HK.out; have := List.count_le_length (a := (46 : UInt8)) (l := r); omega))
            have HX : Hid (∀ x ∈ splitD r, x.length ≤ 9223372036854775000) := Lib.hid (fun x hx => by have := splitD_mem r x hx; omega)
            have HV := Lib.hid (nsValid_any (.agg #[.bool root, .int .i64 k, .slice a4 m4 c4]) root k (splitD r) w4 (PathV.mk HS4.out) HX.out)
            clear HQ3 d0 d1 d2 g2 hw4 HS4
            obtain ⟨d0, d1, d2⟩ := cells3 HQ4.out.2.1
            have HO : Hid (parOk s = validB root k (splitD r)) := Lib.hid (by unfold parOk; rw [HL.out, HRR.out, HRN.out])
            cases hv : validB root k (splitD r)
            all_goals
              rw [hv] at HO
              rw [hv] at HV
              clear hv
              go_wp2_with fail
              ((with_reducible refine HV.out.mono ?_))
              rintro e w5 ⟨rfl, hb⟩
              have HQ5 := Lib.hid (HQ4.out.below hb)
              have HO5 := Lib.hid (own_below HO4.out hb)
              clear hb HV HQ4 d0 d1 d2
              obtain ⟨d0, d1, d2⟩ := cells3 HQ5.out.2.1
              obtain ⟨e0, e1, e2⟩ := cells3 HQ5.out.1
              have i0 := free3 HQ5.out.1 0
              have i1 := free3 HQ5.out.1 1
              have i2 := free3 HQ5.out.1 2
              go_wp2_with fail
            · exact bodyPost_ret (ret_parse _ _ _ _ _ _ rfl (put3 HQ5.out.1 _ _ _)) rfl (parPost_no HO.out (bel3 HQ5.out.2.2 (Nat.le_refl _) _ _ _))
            · refine bodyPost_ret (ret_parse _ _ _ _ _ _ rfl (put3 HQ5.out.1 _ _ _)) rfl ?_
              have := parPost_yes (v := .slice a4 m4 c4) HO.out (by rw [← HL.out]; exact own_base (own_set3 HO5.out w.heap.size (.bool root) (.int .i64 k) (.slice a4 m4 c4) (by have := HZ.out; omega)) (by have := HZ.out; omega)) (bel3 HQ5.out.2.2 (Nat.le_refl _) (.bool root) (.int .i64 k) (.slice a4 m4 c4))
              rw [HRR.out, HRN.out] at this
              exact this
      · obtain rfl : root = false := by cases root with
          | false => rfl
          | true => cases hb
        obtain ⟨t, rfl⟩ := hasPre_caret r (by simpa using hb)
        have HJ3 := Lib.hid HJ2.out.step
        clear hb HJ2
        have hk' : t.length + (k + 1) ≤ 4000000000 := by simp at hk; omega
        go_wp2_with fail
        go_roundw
        case rel => exact ⟨k + 1, t, by simp, hk', HJ3, Lib.hid (by have := HQ2.out.up ((k : Int) + 1); exact_mod_cast this)⟩
        case measure => show t.toArray.size < (94 :: t).toArray.size; simp
end Go.Proofs.YtkalnblbplaheaaDoor
