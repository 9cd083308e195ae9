/- Compare of both: the walks. -/
import Derived.Test.YtkalnblbplaheaaDoorNst
import Derived.Test.YtkalnblbplaheaaDoorCmp
namespace Go.Proofs.YtkalnblbplaheaaDoor
open Go.RowKit
set_option linter.unusedVariables false
set_option linter.unusedSimpArgs false
attribute [local go_sem] ByteArray.mk_append_mk bs_get bs_cut bs_end

theorem isNaN_str (x : List UInt8) (w : World) : Calls Tryd.prog 75 #[.string ⟨x.toArray⟩] w fun e w' => e = .returned (.bool false) ∧ w = w' := by
  go_enter Tryd.func75, Tryd.ntmps75
  go_wp2_with fail
  go_ret
  exact ⟨by simp, rfl⟩
theorem cmpStr_any (x y : List UInt8) (w : World) : Calls Tryd.prog 68 #[.string ⟨x.toArray⟩, .string ⟨y.toArray⟩] w fun e w' => e = .returned (.int .i64 (cmpB x y)) ∧ w = w' := by
  have h3 := cmpB_law.three x y
  go_enter Tryd.func68, Tryd.ntmps68
  go_wp2_with (go_at_call 75; refine (isNaN_str _ _).mono ?_; rintro e w' ⟨rfl, rfl⟩)
  all_goals go_ret
  all_goals refine ⟨?_, rfl⟩
  all_goals (simp only [less_cmpB, eq_cmpB, decide_eq_true_eq, decide_eq_false_iff_not, Bool.not_eq_true', Bool.not_eq_false'] at *; first | (have e : cmpB x y = -1 := (by omega); rw [e]; rfl) | (have e : cmpB x y = 1 := (by omega); rw [e]; rfl) | (have e : cmpB x y = 0 := (by omega); rw [e]; rfl))
set_option maxRecDepth 100000 in
set_option maxHeartbeats 2000000 in
theorem cmpSl_any (va vb : Value) (l1 l2 : List (List UInt8)) (w : World) (h1 : StrsAt w va l1) (h2 : StrsAt w vb l2) :
    Calls Tryd.prog 52 #[va, vb] w fun e w' => e = .returned (.int .i64 (cmpL l1 l2)) ∧ w = w' := by
  obtain ⟨a1, p1, rfl, hl1, _, hc1⟩ := h1
  obtain ⟨a2, p2, rfl, hl2, _, hc2⟩ := h2
  have K1 := Lib.hid hc1
  have K2 := Lib.hid hc2
  clear hc1 hc2
  go_enter Tryd.func52, Tryd.ntmps52
  go_wp2_with fail
  go_loopw [11] (fun i wr => ∃ k : Nat, i = .int .i64 k ∧ k ≤ l1.length ∧ k ≤ l2.length ∧ Hid (cmpL (l1.drop k) (l2.drop k) = cmpL l1 l2) ∧ w = wr) (fun i _ => l1.length - (intOf i).toNat)
  case atStart => exact ⟨0, rfl, Nat.zero_le _, Nat.zero_le _, Lib.hid rfl, rfl⟩
  case round =>
    obtain ⟨k, rfl, hk1, hk2, HE, rfl⟩ := hrel
    by_cases g1 : k < l1.length
    · obtain ⟨b1, o1, rfl, k1⟩ := K1.out (by rintro rfl; simp at g1)
      have c1 := k1 k g1
      unfold strV at c1
      by_cases g2 : k < l2.length
      · obtain ⟨b2, o2, rfl, k2⟩ := K2.out (by rintro rfl; simp at g2)
        have c2 := k2 k g2
        unfold strV at c2
        have HS := Lib.hid (cmpL_step g1 g2)
        clear k1 k2
        have h3 := cmpB_law.three l1[k] l2[k]
        generalize l1[k] = x at *
        generalize l2[k] = y at *
        have HN := Lib.hid (cmpStr_any x y w)
        obtain ⟨c, hc⟩ : ∃ c, cmpB x y = c := ⟨_, rfl⟩
        rw [hc] at h3 HS HN
        clear hc
        go_wp2_with fail
        ((with_reducible refine HN.out.mono ?_))
        rintro e w2 ⟨rfl, rfl⟩
        rcases h3 with rfl | rfl | rfl
        · go_wp2_with fail
          go_ret
          exact ⟨by rw [← HE.out, HS.out]; rfl, rfl⟩
        · go_wp2_with fail
          go_roundw
          case rel => exact ⟨k + 1, by go_num, by omega, by omega, Lib.hid (by rw [← HE.out, HS.out]; rfl), by trivial⟩
          case measure => simp [intOf]; omega
        · go_wp2_with fail
          go_ret
          exact ⟨by rw [← HE.out, HS.out]; rfl, rfl⟩
      · obtain rfl : k = l2.length := by omega
        have HS := Lib.hid (cmpL_long g1 rfl)
        clear k1
        generalize l1[l2.length] = x at *
        go_wp2_with fail
        go_ret
        exact ⟨by rw [← HE.out, HS.out]; rfl, rfl⟩
    · obtain rfl : k = l1.length := by omega
      by_cases g2 : l1.length < l2.length
      · have HS := Lib.hid (cmpL_short rfl g2)
        go_wp2_with fail
        go_ret
        exact ⟨by rw [← HE.out, HS.out]; rfl, rfl⟩
      · have HS := Lib.hid (cmpL_both (l1 := l1) (l2 := l2) rfl (by omega))
        go_wp2_with fail
        go_ret
        exact ⟨by rw [← HE.out, HS.out]; rfl, rfl⟩
set_option maxRecDepth 100000 in
set_option maxHeartbeats 2000000 in
theorem compare_any (p q : Value) (r1 r2 : Bool) (u1 u2 : Int) (l1 l2 : List (List UInt8)) (w : World) (hp : PathV w p r1 u1 l1) (hq : PathV w q r2 u2 l2) :
    Calls Tryd.prog 28 #[p, q] w fun e w' => e = .returned (.int .i64 (cmpP r1 u1 l1 r2 u2 l2)) ∧ Below w.heap.size w w' := by
  obtain ⟨v1, rfl, s1⟩ := hp
  obtain ⟨v2, rfl, s2⟩ := hq
  have HC := Lib.hid (C2.start w (pObj r1 u1 v1) (pObj r2 u2 v2))
  have S1 : Hid (∀ wr, Below w.heap.size w wr → StrsAt wr v1 l1) := Lib.hid (fun wr h => s1.below h)
  have S2 : Hid (∀ wr, Below w.heap.size w wr → StrsAt wr v2 l2) := Lib.hid (fun wr h => s2.below h)
  obtain ⟨a1, cap1, rfl, _⟩ := s1.form
  obtain ⟨a2, cap2, rfl, _⟩ := s2.form
  clear s1 s2
  obtain ⟨c0, c1, c2⟩ := cells3 HC.out.1
  obtain ⟨d0, d1, d2⟩ := cells3 HC.out.2.1
  by_cases hr : r1 = r2
  · subst hr
    have hbe : (r1 != r1) = false := by simp
    obtain ⟨c, hc⟩ : ∃ c, Hid (Lib.compareInt u1 u2 = c) := ⟨_, Lib.hid rfl⟩
    have hc3 : c = -1 ∨ c = 0 ∨ c = 1 := by rw [← hc.out]; exact cmpI_law.three u1 u2
    have HV : Hid (cmpP r1 u1 l1 r1 u2 l2 = if c = 0 then cmpL l1 l2 else c) := Lib.hid (by rw [← hc.out]; unfold cmpP thenC; simp only [cmpR, if_pos]; rfl)
    go_enter Tryd.func28, Tryd.ntmps28
    go_wp2_with fail
    ((with_reducible refine (Tryd.cmp_Compare_int u1 u2 _).mono ?_))
    rintro e w2 ⟨rfl, rfl⟩
    rw [hc.out]
    rcases hc3 with rfl | rfl | rfl
    · go_wp2_with fail
      go_ret
      exact ⟨by rw [HV.out]; rfl, HC.out.bel⟩
    · go_wp2_with fail
      ((with_reducible refine (cmpSl_any _ _ l1 l2 _ (S1.out _ HC.out.bel) (S2.out _ HC.out.bel)).mono ?_))
      rintro e w2 ⟨rfl, rfl⟩
      go_wp2_with fail
      go_ret
      exact ⟨by rw [HV.out]; rfl, HC.out.bel⟩
    · go_wp2_with fail
      go_ret
      exact ⟨by rw [HV.out]; rfl, HC.out.bel⟩
  · have hbe : (r1 != r2) = true := by simpa using hr
    cases r2
    · obtain rfl : r1 = true := by simpa using hr
      have HV : Hid (cmpP true u1 l1 false u2 l2 = 1) := Lib.hid rfl
      go_enter Tryd.func28, Tryd.ntmps28
      go_wp2_with fail
      go_ret
      exact ⟨by rw [HV.out]; rfl, HC.out.bel⟩
    · obtain rfl : r1 = false := by simpa using hr
      have HV : Hid (cmpP false u1 l1 true u2 l2 = -1) := Lib.hid rfl
      go_enter Tryd.func28, Tryd.ntmps28
      go_wp2_with fail
      go_ret
      exact ⟨by rw [HV.out]; rfl, HC.out.bel⟩
set_option maxRecDepth 100000 in
set_option maxHeartbeats 2000000 in
theorem rcompare_any (p q : Value) (r1 r2 : Bool) (u1 u2 : Int) (l1 l2 : List (List UInt8)) (w : World) (hp : PathV w p r1 u1 l1) (hq : PathV w q r2 u2 l2) :
    Calls Tryd.prog 29 #[p, q] w fun e w' => e = .returned (.int .i64 (cmpP r1 u1 l1 r2 u2 l2)) ∧ Below w.heap.size w w' := by
  obtain ⟨v1, rfl, s1⟩ := hp
  obtain ⟨v2, rfl, s2⟩ := hq
  have HC := Lib.hid (C2.start w (pObj r1 u1 v1) (pObj r2 u2 v2))
  have S1 : Hid (∀ wr, Below w.heap.size w wr → StrsAt wr v1 l1) := Lib.hid (fun wr h => s1.below h)
  have S2 : Hid (∀ wr, Below w.heap.size w wr → StrsAt wr v2 l2) := Lib.hid (fun wr h => s2.below h)
  have hl1 := s1.len
  have hl2 := s2.len
  obtain ⟨a1, cap1, rfl, _⟩ := s1.form
  obtain ⟨a2, cap2, rfl, _⟩ := s2.form
  clear s1 s2
  obtain ⟨c0, c1, c2⟩ := cells3 HC.out.1
  obtain ⟨d0, d1, d2⟩ := cells3 HC.out.2.1
  by_cases hr : r1 = r2
  · subst hr
    have hbe : (r1 != r1) = false := by simp
    by_cases h1 : u1 < u2
    · have HV : Hid (cmpP r1 u1 l1 r1 u2 l2 = -1) := Lib.hid (by unfold cmpP thenC; simp only [cmpR, if_pos, cmpI, h1]; rfl)
      go_enter Tryd.func29, Tryd.ntmps29
      go_wp2_with fail
      go_ret
      exact ⟨by rw [HV.out]; rfl, HC.out.bel⟩
    · by_cases h2 : u2 < u1
      · have HV : Hid (cmpP r1 u1 l1 r1 u2 l2 = 1) := Lib.hid (by unfold cmpP thenC; simp only [cmpR, if_pos, cmpI, if_neg h1, h2]; rfl)
        go_enter Tryd.func29, Tryd.ntmps29
        go_wp2_with fail
        go_ret
        exact ⟨by rw [HV.out]; rfl, HC.out.bel⟩
      · have HV : Hid (cmpP r1 u1 l1 r1 u2 l2 = cmpL l1 l2) := Lib.hid (by unfold cmpP thenC; simp only [cmpR, if_pos, cmpI, if_neg h1, if_neg h2])
        obtain rfl : u1 = u2 := by omega
        clear h1 h2
        go_enter Tryd.func29, Tryd.ntmps29
        go_wp2_with fail
        go_loopw [5] (fun i wr => ∃ k : Nat, i = .int .i64 k ∧ k ≤ l1.length ∧ k ≤ l2.length ∧ Hid (cmpL (l1.drop k) (l2.drop k) = cmpL l1 l2) ∧ Hid (C2 w wr (pObj r1 u1 (.slice a1 l1.length cap1)) (pObj r1 u1 (.slice a2 l2.length cap2)))) (fun i _ => l1.length - (intOf i).toNat)
        case atStart => exact ⟨0, rfl, Nat.zero_le _, Nat.zero_le _, Lib.hid rfl, HC⟩
        case round =>
          obtain ⟨k, rfl, hk1, hk2, HE, HC1⟩ := hrel
          obtain ⟨w1, rfl⟩ : ∃ x : World, x = wr := ⟨_, rfl⟩
          clear c0 c1 c2 d0 d1 d2 HC
          obtain ⟨c0, c1, c2⟩ := cells3 HC1.out.1
          obtain ⟨d0, d1, d2⟩ := cells3 HC1.out.2.1
          by_cases g1 : k < l1.length
          · by_cases g2 : k < l2.length
            · obtain ⟨_, _, e1, _, _, kk1⟩ := S1.out _ HC1.out.bel
              obtain ⟨_, _, e2, _, _, kk2⟩ := S2.out _ HC1.out.bel
              injection e1 with e1 n1 e3
              injection e2 with e2 n2 e4
              subst e1 e2 e3 e4
              clear n1 n2
              obtain ⟨b1, o1, rfl, k1⟩ := kk1 (by rintro rfl; simp at g1)
              obtain ⟨b2, o2, rfl, k2⟩ := kk2 (by rintro rfl; simp at g2)
              have m1 := k1 k g1
              have m2 := k2 k g2
              unfold strV at m1 m2
              have HS := Lib.hid (cmpL_step g1 g2)
              clear k1 k2 kk1 kk2
              have h3 := cmpB_law.three l1[k] l2[k]
              generalize l1[k] = x at *
              generalize l2[k] = y at *
              have hls := less_cmpB x y
              have heq := eq_cmpB x y
              obtain ⟨c, hc⟩ : ∃ c, cmpB x y = c := ⟨_, rfl⟩
              rw [hc] at h3 HS hls heq
              clear hc
              rcases h3 with rfl | rfl | rfl
              · have hls2 : Op.bytesLess x y = true := hls
                clear hls heq
                go_wp2_with fail
                go_quiet (fail)
                go_wp2_with fail
                go_ret
                exact ⟨by rw [HV.out, ← HE.out, HS.out]; rfl, below_drewN HC1.out.bel _⟩
              · have hls2 : Op.bytesLess x y = false := hls
                have heq2 : (x == y) = true := heq
                clear hls heq
                go_wp2_with fail
                go_quiet (fail)
                go_wp2_with fail
                go_quiet (fail)
                go_wp2_with fail
                go_roundw
                case rel => exact ⟨k + 1, by go_num, by omega, by omega, Lib.hid (by rw [← HE.out, HS.out]; rfl), Lib.hid (HC1.out.below (below_drewN (Below.refl _ _) _))⟩
                case measure => simp [intOf]; omega
              · have hls2 : Op.bytesLess x y = false := hls
                have heq2 : (x == y) = false := heq
                clear hls heq
                go_wp2_with fail
                go_quiet (fail)
                go_wp2_with fail
                go_quiet (fail)
                go_wp2_with fail
                go_ret
                exact ⟨by rw [HV.out, ← HE.out, HS.out]; rfl, below_drewN (below_drewN HC1.out.bel _) _⟩
            · obtain rfl : k = l2.length := by omega
              have HS := Lib.hid (cmpL_long g1 rfl)
              go_wp2_with fail
              go_ret
              exact ⟨by rw [HV.out, ← HE.out, HS.out]; rfl, HC1.out.bel⟩
          · obtain rfl : k = l1.length := by omega
            by_cases g2 : l1.length < l2.length
            · have HS := Lib.hid (cmpL_short rfl g2)
              go_wp2_with fail
              go_ret
              exact ⟨by rw [HV.out, ← HE.out, HS.out]; rfl, HC1.out.bel⟩
            · have HS := Lib.hid (cmpL_both (l1 := l1) (l2 := l2) rfl (by omega))
              go_wp2_with fail
              go_ret
              exact ⟨by rw [HV.out, ← HE.out, HS.out]; rfl, HC1.out.bel⟩
  · have hbe : (r1 != r2) = true := by simpa using hr
    cases r2
    · obtain rfl : r1 = true := by simpa using hr
      have HV : Hid (cmpP true u1 l1 false u2 l2 = 1) := Lib.hid rfl
      go_enter Tryd.func29, Tryd.ntmps29
      go_wp2_with fail
      go_ret
      exact ⟨by rw [HV.out]; rfl, HC.out.bel⟩
    · obtain rfl : r1 = false := by simpa using hr
      have HV : Hid (cmpP false u1 l1 true u2 l2 = -1) := Lib.hid rfl
      go_enter Tryd.func29, Tryd.ntmps29
      go_wp2_with fail
      go_ret
      exact ⟨by rw [HV.out]; rfl, HC.out.bel⟩
end Go.Proofs.YtkalnblbplaheaaDoor
