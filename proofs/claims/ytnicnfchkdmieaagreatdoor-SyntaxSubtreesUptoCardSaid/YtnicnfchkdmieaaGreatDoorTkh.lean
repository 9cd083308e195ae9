/- integer of the reference: the walk. -/
import Derived.Test.YtnicnfchkdmieaaGreatDoorTkg
namespace Go.Proofs.YtnicnfchkdmieaaGreatDoor
open Go.RowKit
set_option linter.unusedVariables false
set_option linter.unusedSimpArgs false
attribute [local go_sem] ByteArray.mk_append_mk bs_get bs_cut bs_end

theorem byte_is {s : List UInt8} {k : Nat} (h : k < s.length) (d : UInt8) (b : Bool) (hb : decide (s[k] = d) = b) : ((s[k].toNat : Int) == (d.toNat : Int)) = b := by
  rw [byte_eq, ← hb, Bool.eq_iff_iff, beq_iff_eq, decide_eq_true_eq]; exact eq_comm
theorem hexLit_short {s : List UInt8} (h : s.length < 3) : hexLit s = false := by
  unfold hexLit
  split
  · next c r => simp only [List.length_cons] at h; omega
  · rfl
theorem hexLit_long {s : List UInt8} (h : 3 ≤ s.length) : hexLit s = (decide (s[0] = 48) && decide (s[1] = 120)) := by
  match s, h with
  | a :: b :: c :: r, _ =>
    simp only [List.getElem_cons_zero, List.getElem_cons_succ]
    unfold hexLit
    split
    · next heq => injection heq with h1 h2; injection h2 with h2 h3; subst h1 h2; rfl
    · next hn =>
      by_cases h1 : a = 48
      · by_cases h2 : b = 120
        · subst h1 h2
          exact absurd rfl (hn c r)
        · simp [h2]
      · simp [h1]
theorem hexI_some {c : UInt8} {x : Nat} (h : hexV c = some x) : hexI c = x := by unfold hexI; rw [h]
theorem hexI_none {c : UInt8} (h : hexV c = none) : hexI c = -1 := by unfold hexI; rw [h]
set_option maxRecDepth 100000 in
set_option maxHeartbeats 4000000 in
theorem rInt_any (s : List UInt8) (w : World) (hs : s.length ≤ 9223372036854775000) (hne : s ≠ []) :
    Calls Tryz.prog 56 #[.string ⟨s.toArray⟩] w fun e w' => e = .returned (intPair (intV s)) ∧ w = w' := by
  obtain ⟨X, hX⟩ : ∃ X, Hid (intV s = X) := ⟨_, Lib.hid rfl⟩
  rw [hX.out]
  have hpos : 0 < s.length := by cases s with
    | nil => exact absurd rfl hne
    | cons c t => simp
  have HNE : Hid (s ≠ []) := Lib.hid hne
  clear hne
  obtain ⟨b, hb⟩ : ∃ b, Hid (hexLit s = b) := ⟨_, Lib.hid rfl⟩
  go_enter Tryz.func56, Tryz.ntmps56
  go_upto_region 1 with fail
  go_cut [21] (fun z wx => z = .bool b ∧ w = wx)
  case first =>
    by_cases h3 : (3 : Int) ≤ (s.length : Int)
    · have HB : Hid (b = (decide (s[0] = 48) && decide ((s[1]'(by omega)) = 120))) := Lib.hid (by rw [← hb.out, hexLit_long (by omega)])
      cases h0 : decide (s[0] = 48)
      · have hx0 : ((s[0].toNat : Int) == 48) = false := byte_is hpos 48 false h0
        rw [h0] at HB
        clear h0
        go_wp2_with fail
        go_meet
        exact ⟨by rw [HB.out]; rfl, rfl⟩
      · have hx0 : ((s[0].toNat : Int) == 48) = true := byte_is hpos 48 true h0
        rw [h0] at HB
        clear h0
        have h1' : 1 < s.length := by omega
        have hx1 : ((s[1].toNat : Int) == 120) = decide (s[1] = 120) := byte_is h1' 120 _ rfl
        go_wp2_with fail
        go_meet
        exact ⟨by rw [HB.out]; rfl, rfl⟩
    · have HB : Hid (b = false) := Lib.hid (by rw [← hb.out]; exact hexLit_short (by omega))
      go_wp2_with fail
      go_meet
      exact ⟨by rw [HB.out], rfl⟩
  case rest =>
    obtain ⟨rfl, rfl⟩ := hcut
    cases b
    · have HX : Hid (X = if 20 < s.length ∨ (1 < s.length ∧ s.head? = some 48) then none else decF s 0) := Lib.hid (by rw [← hX.out]; exact intV_dec hb.out HNE.out)
      clear hb
      have hse : s.isEmpty = false := by cases s with
        | nil => simp at hpos
        | cons c t => rfl
      obtain ⟨B, hB⟩ : ∃ B : Bool, Hid (decide (20 < s.length ∨ (1 < s.length ∧ s.head? = some 48)) = B) := ⟨_, Lib.hid rfl⟩
      have HX2 : Hid (X = if B = true then none else decF s 0) := Lib.hid (by rw [HX.out, ← hB.out]; simp only [decide_eq_true_eq])
      clear HX
      have hh0 : s.head? = some s[0] := by rw [List.head?_eq_getElem?, List.getElem?_eq_getElem hpos]
      have HB1 : Hid (20 < s.length → B = true) := Lib.hid (fun h => by rw [← hB.out, decide_eq_true_eq]; exact .inl h)
      have HB2 : Hid (¬ 20 < s.length → 1 < s.length → B = decide (s[0] = 48)) := Lib.hid (fun h h1 => by
        rw [← hB.out, decide_eq_decide, hh0]
        constructor
        · rintro (h' | ⟨_, h'⟩)
          · exact absurd h' h
          · injection h'
        · intro h'; exact .inr ⟨h1, by rw [h']⟩)
      have HB3 : Hid (¬ 1 < s.length → B = false) := Lib.hid (fun h => by
        rw [← hB.out, decide_eq_false_iff_not]
        rintro (h' | ⟨h', _⟩) <;> omega)
      clear hh0
      go_upto_region 12 with fail
      go_cut [61] (fun z wx => z = .bool B ∧ w = wx)
      case first =>
        by_cases h20 : (20 : Int) < (s.length : Int)
        · have HB := Lib.hid (HB1.out (by omega))
          go_wp2_with fail
          go_meet
          exact ⟨by rw [HB.out], rfl⟩
        · by_cases h1 : (1 : Int) < (s.length : Int)
          · have HB := Lib.hid (HB2.out (by omega) (by omega))
            have hx0 : ((s[0].toNat : Int) == 48) = decide (s[0] = 48) := byte_is hpos 48 _ rfl
            go_wp2_with fail
            go_meet
            exact ⟨by rw [HB.out], rfl⟩
          · have HB := Lib.hid (HB3.out (by omega))
            go_wp2_with fail
            go_meet
            exact ⟨by rw [HB.out], rfl⟩
      case rest =>
        obtain ⟨rfl, rfl⟩ := hcut
        clear HB1 HB2 HB3 hB hse
        cases B
        · have HX : Hid (X = decF s 0) := Lib.hid (by rw [HX2.out]; rfl)
          clear HX2
          go_wp2_with fail
          go_loop [7, 6] (fun i v => ∃ (k : Nat) (V : Int), i = .int .i64 k ∧ v = .int .u64 V ∧ k ≤ s.length ∧ Hid (∃ n : Nat, V = n ∧ n ≤ 18446744073709551615 ∧ X = decF (s.drop k) n)) (fun i v => s.length - (intOf i).toNat)
          case atStart => exact ⟨0, 0, rfl, rfl, by omega, Lib.hid ⟨0, rfl, by omega, HX.out⟩⟩
          case round =>
            clear HX
            obtain ⟨k, V, rfl, rfl, hk, HX⟩ := hrel
            by_cases hl : k < s.length
            · cases h1 : digitB s[k]
              · have HX2 : Hid (X = none) := Lib.hid (by obtain ⟨n, _, _, h⟩ := HX.out; rw [h]; exact decF_bad hl h1)
                go_wp2_with (go_at_call 55; refine (digit_is _ _ h1 _).mono ?_; rintro e w' ⟨rfl, rfl⟩)
                refine bodyPost_ret (results_tmp2 rfl _ _ _) rfl ?_
                exact ⟨by rw [HX2.out]; rfl, rfl⟩
              · obtain ⟨hd1, hd2⟩ := digitB_range h1
                obtain ⟨d, hd⟩ : ∃ d : Int, Hid ((s[k].toNat : Int) - 48 = d) := ⟨_, Lib.hid rfl⟩
                have hdd : ((s[k].toNat : Int) - 48) = d := hd.out
                have hd3 : 0 ≤ d := by omega
                have hd4 : d ≤ 9 := by omega
                go_wp2_with (go_at_call 55; refine (digit_is _ _ h1 _).mono ?_; rintro e w' ⟨rfl, rfl⟩)
                · next hov =>
                  have HX2 : Hid (X = none) := Lib.hid (by obtain ⟨n, h1', h2, h3⟩ := HX.out; rw [h3]; exact decF_big hl h1 (by omega))
                  refine bodyPost_ret (results_tmp2 rfl _ _ _) rfl ?_
                  exact ⟨by rw [HX2.out]; rfl, rfl⟩
                · next hov =>
                  have HX2 : Hid (∃ n : Nat, V * 10 + d = n ∧ n ≤ 18446744073709551615 ∧ X = decF (s.drop (k + 1)) n) := Lib.hid (by
                    obtain ⟨n, h1', h2, h3⟩ := HX.out
                    have e := decF_yes (v := n) hl h1 (by omega)
                    refine ⟨n * 10 + (s[k].toNat - 48), by omega, by omega, by rw [h3, e]⟩)
                  have hV : 0 ≤ V := by obtain ⟨n, h1', _⟩ := HX.out; omega
                  have e1 : IntKind.u64.wrap (10 * V) = V * 10 := by rw [Int.mul_comm]; exact IntWalk.u64_in _ ⟨by omega, by omega⟩
                  have e2 : IntKind.u64.wrap (V * 10 + d) = V * 10 + d := IntWalk.u64_in _ ⟨by omega, by omega⟩
                  rw [e1, e2]
                  go_round
                  case rel => exact ⟨k + 1, V * 10 + d, by go_num, rfl, by omega, HX2⟩
                  case measure => simp [intOf]; omega
            · have HX2 : Hid (∃ n : Nat, V = n ∧ X = some n) := Lib.hid (by obtain ⟨n, h1, h2, h3⟩ := HX.out; exact ⟨n, h1, by rw [h3]; exact decF_end (by omega)⟩)
              go_wp2_with fail
              refine bodyPost_ret (results_tmp2 rfl _ _ _) rfl ?_
              obtain ⟨n, h1, h2⟩ := HX2.out
              exact ⟨by rw [h2, h1]; rfl, rfl⟩
        · have HX : Hid (X = none) := Lib.hid (by rw [HX2.out]; rfl)
          clear HX2
          go_wp2_with fail
          refine bodyPost_ret (results_tmp2 rfl _ _ _) rfl ?_
          exact ⟨by rw [HX.out]; rfl, rfl⟩
    · have HX : Hid (X = if 18 < s.length then none else hexF (s.drop 2) 0) := Lib.hid (by rw [← hX.out]; exact intV_hex hb.out)
      have h3 : 3 ≤ s.length := Classical.byContradiction fun h => by
        have := hexLit_short (s := s) (by omega)
        rw [hb.out] at this; cases this
      clear hb
      by_cases h18 : (18 : Int) < (s.length : Int)
      · go_wp2_with fail
        refine bodyPost_ret (results_tmp2 rfl _ _ _) rfl ?_
        exact ⟨by rw [HX.out, if_pos (by omega)]; rfl, rfl⟩
      · have HX1 : Hid (X = hexF (s.drop 2) 0) := Lib.hid (by rw [HX.out, if_neg (by omega)])
        clear HX
        go_wp2_with fail
        go_loop [5, 4] (fun i v => ∃ k n : Nat, i = .int .i64 k ∧ v = .int .u64 n ∧ 2 ≤ k ∧ k ≤ s.length ∧ Hid (n < 16 ^ (k - 2)) ∧ Hid (X = hexF (s.drop k) n)) (fun i v => s.length - (intOf i).toNat)
        case atStart => exact ⟨2, 0, rfl, rfl, by omega, by omega, Lib.hid (by decide), HX1⟩
        case round =>
          clear HX1
          obtain ⟨k, n, rfl, rfl, hk2, hk, HN, HX⟩ := hrel
          by_cases hl : k < s.length
          · have HH := Lib.hid (rHex_any s[k] w)
            cases hv : hexV s[k] with
            | none =>
              have HX2 : Hid (X = none) := Lib.hid (by rw [HX.out]; exact hexF_no hl hv)
              rw [hexI_none hv] at HH
              clear hv
              go_wp2_with fail
              ((with_reducible refine HH.out.mono ?_))
              rintro e w3 ⟨rfl, rfl⟩
              go_wp2_with fail
              refine bodyPost_ret (results_tmp2 rfl _ _ _) rfl ?_
              exact ⟨by rw [HX2.out]; rfl, rfl⟩
            | some x =>
              have hx := hexV_lt hv
              have HX2 : Hid (X = hexF (s.drop (k + 1)) (n * 16 + x)) := Lib.hid (by rw [HX.out]; exact hexF_yes hl hv)
              rw [hexI_some hv] at HH
              clear hv
              have hn : n < 1152921504606846976 := Nat.lt_of_lt_of_le HN.out (pow16_le (by omega))
              have hor := or16 n x hn hx
              have HN2 : Hid (n * 16 + x < 16 ^ (k + 1 - 2)) := Lib.hid (by
                have := HN.out
                rw [show k + 1 - 2 = (k - 2) + 1 by omega, Nat.pow_succ]; omega)
              go_wp2_with fail
              ((with_reducible refine HH.out.mono ?_))
              rintro e w3 ⟨rfl, rfl⟩
              go_wp2_with fail
              ((with_reducible refine HH.out.mono ?_))
              rintro e w3 ⟨rfl, rfl⟩
              go_wp2_with fail
              go_round
              case rel => exact ⟨k + 1, n * 16 + x, by go_num, by go_num, by omega, by omega, HN2, HX2⟩
              case measure => simp [intOf]; omega
          · have HX2 : Hid (X = some n) := Lib.hid (by rw [HX.out]; exact hexF_end (by omega))
            go_wp2_with fail
            refine bodyPost_ret (results_tmp2 rfl _ _ _) rfl ?_
            exact ⟨by rw [HX2.out]; rfl, rfl⟩
end Go.Proofs.YtnicnfchkdmieaaGreatDoor
