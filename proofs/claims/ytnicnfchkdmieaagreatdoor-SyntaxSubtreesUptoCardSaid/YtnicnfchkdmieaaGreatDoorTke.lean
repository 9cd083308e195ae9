/- nameEnd of the reference: the walk. -/
import Derived.Test.YtnicnfchkdmieaaGreatDoorTkd
namespace Go.Proofs.YtnicnfchkdmieaaGreatDoor
open Go.RowKit
set_option linter.unusedVariables false
set_option linter.unusedSimpArgs false
attribute [local go_sem] ByteArray.mk_append_mk bs_get bs_cut bs_end

theorem letter_is (c : UInt8) (b : Bool) (H : letterB c = b) (w : World) : Calls Tryz.prog 51 #[.int .u8 c.toNat] w fun e w' => e = .returned (.bool b) ∧ w = w' := by
  rw [← H]; exact letter_any c w
theorem digit_is (c : UInt8) (b : Bool) (H : digitB c = b) (w : World) : Calls Tryz.prog 55 #[.int .u8 c.toNat] w fun e w' => e = .returned (.bool b) ∧ w = w' := by
  rw [← H]; exact digit_any c w
/-- The index behind a name at i, or -1. -/
def nameI (o : Option Nat) (i : Nat) : Int := match o with
  | some m => ((i + m : Nat) : Int)
  | none => -1
theorem idEnd_word (s : List UInt8) (j : Nat) : idEnd s j = j + wordN (s.drop j) := rfl
set_option maxRecDepth 100000 in
set_option maxHeartbeats 4000000 in
theorem rName_any (s : List UInt8) (i : Nat) (w : World) (hs : s.length ≤ 9223372036854770000) (hi : i ≤ s.length) :
    Calls Tryz.prog 54 #[.string ⟨s.toArray⟩, .int .i64 i] w fun e w' => e = .returned (.int .i64 (nameI (nameN (s.drop i)) i)) ∧ w = w' := by
  obtain ⟨p0, hp0⟩ : ∃ p, i + preN (s.drop i) = p := ⟨_, rfl⟩
  have hp1 : p0 ≤ s.length := by have := preN_le (s.drop i); rw [List.length_drop] at this; omega
  have hp2 : i ≤ p0 := by omega
  obtain ⟨X, hX⟩ : ∃ X, Hid (nameI (nameN (s.drop i)) i = X) := ⟨_, Lib.hid rfl⟩
  rw [hX.out]
  have HSTOP : Hid ((p0 = s.length ∨ ∃ h : p0 < s.length, letterB s[p0] = false) → X = if i < p0 then (p0 : Int) else -1) := Lib.hid (by
    intro h
    have e : nameN (s.drop i) = if 0 < preN (s.drop i) then some (preN (s.drop i)) else none := by
      rcases h with h | ⟨h, h2⟩
      · exact nameN_end (by rw [List.length_drop]; omega)
      · refine nameN_stop (by rw [List.length_drop]; omega) ?_
        subst hp0
        rw [List.getElem_drop]; exact h2
    rw [← hX.out, e]
    by_cases h0 : 0 < preN (s.drop i)
    · rw [if_pos h0, if_pos (by omega)]
      unfold nameI
      simp only
      omega
    · rw [if_neg h0, if_neg (by omega)]; rfl)
  have HGO : Hid (∀ h : p0 < s.length, letterB s[p0] = true → X = nameI (segsL (s.drop p0)) p0) := Lib.hid (by
    intro h h2
    have e : nameN (s.drop i) = (segsL ((s.drop i).drop (preN (s.drop i)))).map (preN (s.drop i) + ·) := by
      refine nameN_segs (by rw [List.length_drop]; omega) ?_
      subst hp0
      rw [List.getElem_drop]; exact h2
    rw [← hX.out, e, List.drop_drop, hp0]
    unfold nameI
    cases segsL (s.drop p0) with
    | none => rfl
    | some m => simp only [Option.map_some]; omega)
  go_enter Tryz.func54, Tryz.ntmps54
  go_upto_region 2 with fail
  go_cut [17] (fun z wx => z = .bool (Lib.hasPrefix (s.drop i) [92]) ∧ w = wx)
  case first =>
    by_cases hl : i < s.length
    · have hcc : ((s[i].toNat : Int) == 92) = Lib.hasPrefix (s.drop i) [92] := by
        rw [List.drop_eq_getElem_cons hl, show (92 : Int) = ((92 : UInt8).toNat : Int) from rfl, byte_eq, hasPre_cons]
      go_wp2_with fail
      go_meet
      exact ⟨rfl, rfl⟩
    · have hdn : Hid (Lib.hasPrefix (s.drop i) [92] = false) := Lib.hid (by rw [List.drop_eq_nil_of_le (by omega)]; rfl)
      go_wp2_with fail
      go_meet
      exact ⟨by rw [hdn.out], rfl⟩
  case rest =>
    obtain ⟨rfl, rfl⟩ := hcut
    go_upto_if 17 with fail
    go_cut [5] (fun z wx => z = .int .i64 p0 ∧ w = wx)
    case first =>
      cases hb : Lib.hasPrefix (s.drop i) [92]
      · have HC : Hid (p0 = caretE s i) := Lib.hid (by
          rw [← hp0, preN_not hb]
          unfold caretE
          simp)
        go_wp2_with fail
        go_loop [5] (fun v => ∃ k : Nat, v = .int .i64 k ∧ k ≤ s.length ∧ Hid (p0 = caretE s k)) (fun v => s.length - (intOf v).toNat)
        case atStart => exact ⟨i, rfl, hi, HC⟩
        case round =>
          clear HC
          obtain ⟨k, rfl, hk, HE⟩ := hrel
          by_cases hl : k < s.length
          · have hat := Lib.hid (caretE_at hl)
            have hcc : ((s[k].toNat : Int) == 94) = (94 == s[k]) := byte_eq s[k] 94
            cases h1 : ((94 : UInt8) == s[k])
            · rw [h1] at hcc
              have HE2 : Hid (p0 = k) := Lib.hid (by rw [HE.out, hat.out, h1]; rfl)
              clear h1
              go_wp2_with fail
              go_meet
              exact ⟨by rw [HE2.out], rfl⟩
            · rw [h1] at hcc
              have HE2 : Hid (p0 = caretE s (k + 1)) := Lib.hid (by rw [HE.out, hat.out, h1]; rfl)
              clear h1
              go_wp2_with fail
              go_round
              case rel => exact ⟨k + 1, by go_num, by omega, HE2⟩
              case measure => simp [intOf]; omega
          · have HE2 : Hid (p0 = k) := Lib.hid (by rw [HE.out]; unfold caretE caretN; rw [List.drop_eq_nil_of_le (by omega)]; rfl)
            go_wp2_with fail
            go_meet
            exact ⟨by rw [HE2.out], rfl⟩
      · have HC : Hid (p0 = i + 1) := Lib.hid (by rw [← hp0, preN_root hb])
        go_wp2_with fail
        go_meet
        exact ⟨by rw [HC.out]; go_num, rfl⟩
    case rest =>
      obtain ⟨rfl, rfl⟩ := hcut
      clear hp0 hX
      by_cases hl : p0 = s.length
      · have HX2 := Lib.hid (HSTOP.out (.inl hl))
        have hlb : ((p0 : Int) == (s.length : Int)) = true := by rw [beq_iff_eq]; omega
        clear hl HSTOP HGO
        by_cases h0 : (i : Int) < (p0 : Int)
        · go_wp2_with fail
          go_ret
          exact ⟨by rw [HX2.out, if_pos (by omega)]; rfl, rfl⟩
        · go_wp2_with fail
          go_ret
          exact ⟨by rw [HX2.out, if_neg (by omega)]; rfl, rfl⟩
      · have hlt : p0 < s.length := by omega
        have hlb : ((p0 : Int) == (s.length : Int)) = false := by rw [beq_eq_false_iff_ne]; omega
        cases hlet : letterB s[p0]
        · have HX2 := Lib.hid (HSTOP.out (.inr ⟨hlt, hlet⟩))
          clear HSTOP HGO hl
          by_cases h0 : (i : Int) < (p0 : Int)
          · go_wp2_with (go_at_call 51; refine (letter_is _ _ hlet _).mono ?_; rintro e w' ⟨rfl, rfl⟩)
            go_ret
            exact ⟨by rw [HX2.out, if_pos (by omega)]; rfl, rfl⟩
          · go_wp2_with (go_at_call 51; refine (letter_is _ _ hlet _).mono ?_; rintro e w' ⟨rfl, rfl⟩)
            go_ret
            exact ⟨by rw [HX2.out, if_neg (by omega)]; rfl, rfl⟩
        · have HX2 := Lib.hid (HGO.out hlt hlet)
          clear HSTOP HGO hl
          go_wp2_with (go_at_call 51; refine (letter_is _ _ hlet _).mono ?_; rintro e w' ⟨rfl, rfl⟩)
          clear hlet hlb
          go_loop [5] (fun v => ∃ p : Nat, v = .int .i64 p ∧ p ≤ s.length ∧ Hid (X = nameI (segsL (s.drop p)) p)) (fun v => s.length - (intOf v).toNat)
          case atStart => exact ⟨p0, rfl, hp1, HX2⟩
          case round =>
            clear HX2
            obtain ⟨p, rfl, hp, HX⟩ := hrel
            have HI := Lib.hid (ident_any s p w (by omega) (by omega))
            rw [idEnd_word] at HI
            obtain ⟨n, hn⟩ : ∃ n, wordN (s.drop p) = n := ⟨_, rfl⟩
            have hnl : n ≤ s.length - p := by rw [← hn, ← List.length_drop]; exact wordN_le _
            rw [hn] at HI
            by_cases hl : p = s.length
            · have hlb : ((p : Int) == (s.length : Int)) = true := by rw [beq_iff_eq]; omega
              have HX3 : Hid (X = -1) := Lib.hid (by rw [HX.out, List.drop_eq_nil_of_le (by omega)]; rfl)
              clear hl hn
              go_wp2_with fail
              ((with_reducible refine HI.out.mono ?_))
              rintro e w2 ⟨rfl, rfl⟩
              go_wp2_with fail
              go_ret
              exact ⟨by rw [HX3.out]; rfl, rfl⟩
            · have hlt2 : p < s.length := by omega
              have hlb : ((p : Int) == (s.length : Int)) = false := by rw [beq_eq_false_iff_ne]; omega
              cases hlet : letterB s[p]
              · have HX3 : Hid (X = -1) := Lib.hid (by rw [HX.out, List.drop_eq_getElem_cons hlt2, segsL_bad hlet]; rfl)
                clear hl hn
                go_wp2_with fail
                ((with_reducible refine HI.out.mono ?_))
                rintro e w2 ⟨rfl, rfl⟩
                go_wp2_with (go_at_call 51; refine (letter_is _ _ hlet _).mono ?_; rintro e w' ⟨rfl, rfl⟩)
                go_ret
                exact ⟨by rw [HX3.out]; rfl, rfl⟩
              · have hn1 : 1 ≤ n := by rw [← hn, List.drop_eq_getElem_cons hlt2]; exact wordN_pos (by unfold idB; rw [hlet]; rfl)
                obtain ⟨sb, hsb⟩ : ∃ sb, Hid (segB ((s.drop p).take n) = sb) := ⟨_, Lib.hid rfl⟩
                have HSEGF : Hid (sb = false → X = -1) := Lib.hid (by
                  intro h
                  rw [← hsb.out] at h
                  rw [HX.out]
                  rw [← hn] at h
                  rw [List.drop_eq_getElem_cons hlt2] at h ⊢
                  rw [segsL_seg h]; rfl)
                have HEND : Hid (sb = true → (∀ t, s.drop (p + n) ≠ 46 :: t) → X = ((p + n : Nat) : Int)) := Lib.hid (by
                  intro h h2
                  rw [← hsb.out] at h
                  rw [HX.out]
                  rw [← List.drop_drop] at h2
                  rw [← hn] at h h2
                  have e : wordN (s.drop p) = n := hn
                  rw [List.drop_eq_getElem_cons hlt2] at h h2 e ⊢
                  rw [segsL_end hlet h h2, e]; rfl)
                have HDOT : Hid (sb = true → ∀ t, s.drop (p + n) = 46 :: t → X = nameI (segsL t) (p + n + 1)) := Lib.hid (by
                  intro h t h2
                  rw [← hsb.out] at h
                  rw [HX.out]
                  rw [← List.drop_drop] at h2
                  rw [← hn] at h h2
                  have e : wordN (s.drop p) = n := hn
                  rw [List.drop_eq_getElem_cons hlt2] at h h2 e ⊢
                  rw [segsL_dot hlet h h2, e]
                  cases segsL t with
                  | none => rfl
                  | some m => unfold nameI; simp only [Option.map_some]; omega)
                have HSG := Lib.hid (segmentB_is ((s.drop p).take n) sb hsb w (by rw [List.length_take, List.length_drop]; omega))
                clear hn hl
                go_wp2_with fail
                ((with_reducible refine HI.out.mono ?_))
                rintro e w2 ⟨rfl, rfl⟩
                obtain ⟨q, hq⟩ : ∃ q, p + n = q := ⟨_, rfl⟩
                have hqn : q - p = n := by omega
                rw [hq] at HEND HDOT ⊢
                go_wp2_with (go_at_call 51; refine (letter_is _ _ hlet _).mono ?_; rintro e w' ⟨rfl, rfl⟩)
                ((with_reducible refine HSG.out.mono ?_))
                rintro e w2 ⟨rfl, rfl⟩
                clear hlet
                cases sb
                · have HX3 := Lib.hid (HSEGF.out rfl)
                  go_wp2_with fail
                  go_ret
                  exact ⟨by rw [HX3.out]; rfl, rfl⟩
                · by_cases hql : q = s.length
                  · have hqb : ((q : Int) == (s.length : Int)) = true := by rw [beq_iff_eq]; omega
                    have HX3 := Lib.hid (HEND.out rfl (by intro t; rw [List.drop_eq_nil_of_le (by omega)]; simp))
                    clear hql
                    go_wp2_with fail
                    go_ret
                    exact ⟨by rw [HX3.out]; rfl, rfl⟩
                  · have hqb : ((q : Int) == (s.length : Int)) = false := by rw [beq_eq_false_iff_ne]; omega
                    have hqlt : q < s.length := by omega
                    by_cases hdot : s[q] = 46
                    · have hcc : ((s[q].toNat : Int) != 46) = false := by rw [hdot]; rfl
                      have HX3 := Lib.hid (HDOT.out rfl (s.drop (q + 1)) (by rw [List.drop_eq_getElem_cons hqlt, hdot]))
                      clear hdot hql
                      go_wp2_with fail
                      go_round
                      case rel => exact ⟨q + 1, by go_num, by omega, HX3⟩
                      case measure => simp [intOf]; omega
                    · have hcc : ((s[q].toNat : Int) != 46) = true := by
                        rw [bne, show (46 : Int) = ((46 : UInt8).toNat : Int) from rfl, byte_eq]
                        simpa using fun e => hdot e.symm
                      have HX3 := Lib.hid (HEND.out rfl (by intro t; rw [List.drop_eq_getElem_cons hqlt]; intro e; injection e with e _; exact hdot e))
                      clear hdot hql
                      go_wp2_with fail
                      go_ret
                      exact ⟨by rw [HX3.out]; rfl, rfl⟩
end Go.Proofs.YtnicnfchkdmieaaGreatDoor
