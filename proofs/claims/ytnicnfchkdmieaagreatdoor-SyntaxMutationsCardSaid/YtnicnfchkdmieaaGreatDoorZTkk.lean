/- Tkk -/
import Derived.Test.YtnicnfchkdmieaaGreatDoorZe
import Derived.Test.YtnicnfchkdmieaaGreatDoorZPlan
set_option linter.unusedVariables false
set_option linter.unusedSimpArgs false
namespace Go.Proofs.YtnicnfchkdmieaaGreatDoor
open Go.RowKit
attribute [local go_sem] ByteArray.mk_append_mk bs_get bs_cut bs_end by_conv1
def textPair (o : Option (List UInt8 × List UInt8)) (n : Nat) : Value := match o with
 | some (v, r) => .tuple #[.string ⟨v.toArray⟩, .int .i64 ((n - r.length : Nat) : Int)]
 | none => .tuple #[.string ⟨#[]⟩, .int .i64 (-1)]
theorem or16i (a b : Nat) (ha : a < 16) (hb : b < 16) : bits .or .i64 ((a : Int) * 16) (b : Int) = ((a * 16 + b : Nat) : Int) := by
 have : ∀ a : Fin 16, ∀ b : Fin 16, bits .or .i64 (((a : Nat) : Int) * 16) ((b : Nat) : Int) = (((a : Nat) * 16 + (b : Nat) : Nat) : Int) := by decide +kernel
 exact this ⟨a, ha⟩ ⟨b, hb⟩
theorem by_conv1d (w : World) (x : Int) : Sem.run Tryz.prog (convert 22 9 (.slice (some ⟨w.heap.size, 0, none⟩) 1 1)) (w.alloc (.cells #[.int .u8 x] 5)).drew = .ok (.string ⟨[UInt8.ofNat x.toNat].toArray⟩) (w.alloc (.cells #[.int .u8 x] 5)).drew := by
 rw [run_convert_bytes_string _ 22 9 5 _ _ _ Tryz.underlying22 Tryz.underlying5 Tryz.underlying9]
 rw [run_bytesToString _ _ 1 1 [x] (by simp [loadCells, go_sem])]
 rfl
attribute [local go_sem] by_conv1d
theorem idx_is (s : List UInt8) (k : Nat) (h : k < s.length) (i : Int) (hi : i = k) (w : World) : (Instr.index 9 (.string ⟨s.toArray⟩) (.int .i64 i)).run Tryz.prog w = .ok (.int .u8 s[k].toNat) w := by
 subst hi
 rw [run_index_string _ _ _ _ _ Tryz.underlying9, dif_pos ⟨by omega, by rw [ByteArray.size_mk', List.size_toArray]; omega⟩]
 rfl
theorem text_pair {s l : List UInt8} {p : Nat} (h : p < s.length) (hc : s[p] = 92) (h1 : p + 1 < s.length) (h2 : s[p + 1] = 34 ∨ s[p + 1] = 92) : textF (s.drop p) l = textF (s.drop (p + 2)) (l ++ [s[p + 1]]) := by
 rw [textF_at h, hc, List.drop_eq_getElem_cons h1, textF_escGo]
 rcases h2 with h2 | h2 <;> rw [h2] <;> rfl
theorem text_hex {s l : List UInt8} {p : Nat} (h : p < s.length) (hc : s[p] = 92) (h3 : p + 3 < s.length) (h2 : s[p + 1] = 120) {a b : Nat} (ha : hexV s[p + 2] = some a) (hb : hexV s[p + 3] = some b) : textF (s.drop p) l = textF (s.drop (p + 4)) (l ++ [UInt8.ofNat (a * 16 + b)]) := by
 rw [textF_at h, hc, List.drop_eq_getElem_cons (i := p + 1) (by omega), List.drop_eq_getElem_cons (i := p + 1 + 1) (by omega), List.drop_eq_getElem_cons (i := p + 1 + 1 + 1) (by omega), textF_escGo, h2, escL_hex]
 rw [show s[p + 1 + 1] = s[p + 2] from rfl, show s[p + 1 + 1 + 1] = s[p + 3] from rfl, ha, hb]
 rfl
theorem text_none {s l : List UInt8} {p : Nat} (h : p < s.length) (hc : s[p] = 92) (h1 : ∀ h1 : p + 1 < s.length, s[p + 1] ≠ 34 ∧ s[p + 1] ≠ 92)
 (h2 : ∀ h3 : p + 3 < s.length, s[p + 1] = 120 → hexV s[p + 2] = none ∨ hexV s[p + 3] = none) : textF (s.drop p) l = none := by
 rw [textF_at h, hc, textF_escGo]
 by_cases k1 : p + 1 < s.length
 ·obtain ⟨n1, n2⟩ := h1 k1
  rw [List.drop_eq_getElem_cons k1]
  by_cases k2 : s[p + 1] = 120
  ·rw [k2]
   by_cases k3 : p + 3 < s.length
   ·rw [List.drop_eq_getElem_cons (i := p + 1 + 1) (by omega), List.drop_eq_getElem_cons (i := p + 1 + 1 + 1) (by omega), escL_hex]
    rw [show s[p + 1 + 1] = s[p + 2] from rfl, show s[p + 1 + 1 + 1] = s[p + 3] from rfl]
    rcases h2 k3 k2 with e | e
    ·rw [e]; rfl
    ·rw [e]; cases hexV s[p + 2] <;> rfl
   ·rw [escL_short (by rw [List.length_drop]; omega)]; rfl
  ·rw [escL_other n1 n2 k2]; rfl
 ·rw [List.drop_eq_nil_of_le (by omega)]; rfl
set_option maxRecDepth 100000 in
set_option maxHeartbeats 8000000 in
theorem rText_any (s : List UInt8) (p0 : Nat) (w : World) (hs : s.length ≤ 4611686018427380000) (h1 : p0 < s.length) :
 Calls Tryz.prog 57 #[.string ⟨s.toArray⟩, .int .i64 p0] w fun e w' => e = .returned (textPair (textF (s.drop (p0 + 1)) []) s.length) ∧ Below w.heap.size w w' := by
 obtain ⟨X, hX⟩ : ∃ X, Hid (textF (s.drop (p0 + 1)) [] = X) := ⟨_, Lib.hid rfl⟩
 rw [hX.out]
 go_enter Tryz.func57, Tryz.ntmps57
 go_wp2_with fail
 go_loopw [1, 6] (fun i v wr => ∃ (p : Nat) (l : List UInt8), i = .int .i64 p ∧ v = .string ⟨l.toArray⟩ ∧ p ≤ s.length ∧ l.length ≤ p ∧ Hid (X = textF (s.drop p) l) ∧ Hid (Below w.heap.size w wr)) (fun i _ _ => s.length - (intOf i).toNat)
 case atStart => exact ⟨p0 + 1, [], by go_num, rfl, by omega, by simp, Lib.hid hX.out.symm, Lib.hid (Below.refl _ _)⟩
 case round =>
  obtain ⟨p, l, rfl, rfl, hp, hl, HX, HB⟩ := hrel
  obtain ⟨w1, rfl⟩ : ∃ x : World, x = wr := ⟨_, rfl⟩
  by_cases hlt : p < s.length
  ·have HT := Lib.hid (textF_at hlt l)
   have H34 := Lib.hid (byte_cases s[p] 34 34 rfl)
   have H92 := Lib.hid (byte_cases s[p] 92 92 rfl)
   have HC := Lib.hid (fun (h1 : s[p] ≠ 34) (h2 : s[p] ≠ 92) => (textF_plain (r := s.drop (p + 1)) (v := l) h1 h2))
   rcases H34.out with ⟨e1, h34⟩ | ⟨e1, h34⟩
   ·have HX2 : Hid (X = if 255 < l.length then none else some (l, s.drop (p + 1))) := Lib.hid (by rw [HX.out, HT.out, e1, textF_quote])
    clear e1 H34 H92 HC HT
    by_cases h255 : (255 : Int) < (l.length : Int)
    ·go_wp2_with fail
     refine bodyPost_ret (results_tmp2 rfl _ _ _) rfl ?_
     exact ⟨by rw [HX2.out, if_pos (by omega)]; rfl, HB.out⟩
    ·go_wp2_with fail
     refine bodyPost_ret (results_tmp2 rfl _ _ _) rfl ?_
     refine ⟨?_, HB.out⟩
     rw [HX2.out, if_neg (by omega)]
     unfold textPair
     simp only [List.length_drop]
     rw [show s.length - (s.length - (p + 1)) = p + 1 by omega]
     rfl
   rcases H92.out with ⟨e2, h92⟩ | ⟨e2, h92⟩
   ·have hge : (32 : Int) ≤ (s[p].toNat : Int) := by rw [e2]; decide
    have hle : (s[p].toNat : Int) ≤ 126 := by rw [e2]; decide
    have hne : ((s[p].toNat : Int) != 92) = false := by rw [bne, h92]; rfl
    obtain ⟨b1, hb1⟩ : ∃ b1 : Bool, Hid (b1 = decide (∃ h : p + 1 < s.length, s[p + 1] = 34 ∨ s[p + 1] = 92)) := ⟨_, Lib.hid rfl⟩
    have HP : Hid (b1 = true → ∀ h : p + 1 < s.length, X = textF (s.drop (p + 2)) (l ++ [s[p + 1]])) := Lib.hid (fun h h' => by
     rw [hb1.out, decide_eq_true_eq] at h
     obtain ⟨_, h⟩ := h
     rw [HX.out]; exact text_pair hlt e2 h' h)
    have HH : Hid (∀ h3 : p + 3 < s.length, s[p + 1] = 120 → ∀ a b, hexV s[p + 2] = some a → hexV s[p + 3] = some b → X = textF (s.drop (p + 4)) (l ++ [UInt8.ofNat (a * 16 + b)])) := Lib.hid (fun h3 h4 a b ha hb => by
     rw [HX.out]; exact text_hex hlt e2 h3 h4 ha hb)
    have HN : Hid (b1 = false → (∀ h3 : p + 3 < s.length, s[p + 1] = 120 → hexV s[p + 2] = none ∨ hexV s[p + 3] = none) → X = none) := Lib.hid (fun h h3 => by
     rw [hb1.out, decide_eq_false_iff_not] at h
     rw [HX.out]
     exact text_none hlt e2 (fun h' => ⟨fun e => h ⟨h', .inl e⟩, fun e => h ⟨h', .inr e⟩⟩) h3)
    have hb2 : Hid (b1 = true → p + 1 < s.length) := Lib.hid (fun h => by
     rw [hb1.out, decide_eq_true_eq] at h
     exact h.1)
    clear e1 e2 H34 H92 HC HT HX
    go_upto_region 15 with fail
    go_cut [43] (fun z wx => z = .bool b1 ∧ w1 = wx)
    case first =>
     by_cases k1 : (p : Int) + 1 < (s.length : Int)
     ·have k1' : p + 1 < s.length := by omega
      have J34 := Lib.hid (byte_cases s[p + 1] 34 34 rfl)
      have J92 := Lib.hid (byte_cases s[p + 1] 92 92 rfl)
      rcases J34.out with ⟨g1, g34⟩ | ⟨g1, g34⟩
      ·have hb : Hid (b1 = true) := Lib.hid (by rw [hb1.out, decide_eq_true_eq]; exact ⟨k1', .inl g1⟩)
       clear g1
       go_wp2_with fail
       go_meet
       exact ⟨by rw [hb.out], rfl⟩
      ·rcases J92.out with ⟨g2, g92⟩ | ⟨g2, g92⟩
       ·have hb : Hid (b1 = true) := Lib.hid (by rw [hb1.out, decide_eq_true_eq]; exact ⟨k1', .inr g2⟩)
        clear g1 g2
        go_wp2_with fail
        go_meet
        exact ⟨by rw [hb.out], rfl⟩
       ·have hb : Hid (b1 = false) := Lib.hid (by rw [hb1.out, decide_eq_false_iff_not]; rintro ⟨_, h | h⟩; exact g1 h; exact g2 h)
        clear g1 g2
        go_wp2_with fail
        go_meet
        exact ⟨by rw [hb.out], rfl⟩
     ·have hb : Hid (b1 = false) := Lib.hid (by rw [hb1.out, decide_eq_false_iff_not]; rintro ⟨h, _⟩; omega)
      go_wp2_with fail
      go_meet
      exact ⟨by rw [hb.out], rfl⟩
    case rest =>
     obtain ⟨rfl, rfl⟩ := hcut
     clear hb1
     cases b1
     ·have HN2 := Lib.hid (HN.out rfl)
      clear HN HP hb2
      obtain ⟨o2, ho2⟩ : ∃ o : Nat → Option Nat, Hid (∀ h : p + 2 < s.length, hexV s[p + 2] = o 0) := ⟨fun _ => if h : p + 2 < s.length then hexV s[p + 2] else none, Lib.hid fun h => by rw [dif_pos h]⟩
      obtain ⟨o3, ho3⟩ : ∃ o : Nat → Option Nat, Hid (∀ h : p + 3 < s.length, hexV s[p + 3] = o 0) := ⟨fun _ => if h : p + 3 < s.length then hexV s[p + 3] else none, Lib.hid fun h => by rw [dif_pos h]⟩
      obtain ⟨q2, hq2⟩ : ∃ q, o2 0 = q := ⟨_, rfl⟩
      obtain ⟨q3, hq3⟩ : ∃ q, o3 0 = q := ⟨_, rfl⟩
      rw [hq2] at ho2
      rw [hq3] at ho3
      clear hq2 hq3 o2 o3
      obtain ⟨b2, hb2⟩ : ∃ b2 : Bool, Hid (b2 = decide (∃ h : p + 3 < s.length, s[p + 1] = 120 ∧ q2.isSome = true ∧ q3.isSome = true)) := ⟨_, Lib.hid rfl⟩
      go_upto_region 18 with fail
      go_cut [72] (fun z wx => z = .bool b2 ∧ w1 = wx)
      case first =>
       by_cases k3 : (p : Int) + 3 < (s.length : Int)
       ·have k3' : p + 3 < s.length := by omega
        have k2' : p + 2 < s.length := by omega
        have k1' : p + 1 < s.length := by omega
        have J120 := Lib.hid (byte_cases s[p + 1] 120 120 rfl)
        have K2 := Lib.hid (rHex_any s[p + 2] w1)
        have K3 := Lib.hid (rHex_any s[p + 3] w1)
        rcases J120.out with ⟨g1, g120⟩ | ⟨g1, g120⟩
        ·have hb : Hid (b2 = (q2.isSome && q3.isSome)) := Lib.hid (by
          rw [hb2.out, Bool.eq_iff_iff, decide_eq_true_eq, Bool.and_eq_true]
          exact ⟨fun ⟨_, _, h⟩ => h, fun h => ⟨k3', g1, h⟩⟩)
         clear g1
         cases q2 with
         | none =>
           rw [hexI_none (ho2.out k2')] at K2
           go_wp2_with fail
           ((with_reducible refine K2.out.mono ?_))
           rintro e w2 ⟨rfl, rfl⟩
           go_wp2_with fail
           go_meet
           exact ⟨by rw [hb.out]; rfl, rfl⟩
         | some x =>
           rw [hexI_some (ho2.out k2')] at K2
           cases q3 with
           | none =>
             rw [hexI_none (ho3.out k3')] at K3
             go_wp2_with fail
             ((with_reducible refine K2.out.mono ?_))
             rintro e w2 ⟨rfl, rfl⟩
             go_wp2_with fail
             ((with_reducible refine K3.out.mono ?_))
             rintro e w2 ⟨rfl, rfl⟩
             go_wp2_with fail
             go_meet
             exact ⟨by rw [hb.out]; rfl, rfl⟩
           | some y =>
             rw [hexI_some (ho3.out k3')] at K3
             go_wp2_with fail
             ((with_reducible refine K2.out.mono ?_))
             rintro e w2 ⟨rfl, rfl⟩
             go_wp2_with fail
             ((with_reducible refine K3.out.mono ?_))
             rintro e w2 ⟨rfl, rfl⟩
             go_wp2_with fail
             go_meet
             exact ⟨by rw [hb.out]; rfl, rfl⟩
        ·have hb : Hid (b2 = false) := Lib.hid (by rw [hb2.out, decide_eq_false_iff_not]; rintro ⟨_, h, _⟩; exact g1 h)
         clear g1
         go_wp2_with fail
         go_meet
         exact ⟨by rw [hb.out], rfl⟩
       ·have hb : Hid (b2 = false) := Lib.hid (by rw [hb2.out, decide_eq_false_iff_not]; rintro ⟨h, _⟩; omega)
        go_wp2_with fail
        go_meet
        exact ⟨by rw [hb.out], rfl⟩
      case rest =>
       obtain ⟨rfl, rfl⟩ := hcut
       cases b2
       ·have HX2 : Hid (X = none) := Lib.hid (HN2.out fun h3 h4 => by
         have := hb2.out
         rw [eq_comm, decide_eq_false_iff_not] at this
         rw [ho2.out (by omega), ho3.out h3]
         cases q2 with
         | none => exact .inl rfl
         | some x => cases q3 with
           | none => exact .inr rfl
           | some y => exact absurd ⟨h3, h4, rfl, rfl⟩ this)
        clear HN2 HH hb2 ho2 ho3
        go_wp2_with fail
        refine bodyPost_ret (results_tmp2 rfl _ _ _) rfl ?_
        exact ⟨by rw [HX2.out]; rfl, HB.out⟩
       ·obtain ⟨k3', g1, g2, g3⟩ : ∃ h : p + 3 < s.length, s[p + 1] = 120 ∧ q2.isSome = true ∧ q3.isSome = true := by
         have := hb2.out
         rw [eq_comm, decide_eq_true_eq] at this
         exact this
        cases q2 with
        | none => cases g2
        | some x =>
          cases q3 with
          | none => cases g3
          | some y =>
            have k2' : p + 2 < s.length := by omega
            have HX2 := Lib.hid (HH.out k3' g1 x y (ho2.out k2') (ho3.out k3'))
            have hx := hexV_lt (ho2.out k2')
            have hy := hexV_lt (ho3.out k3')
            have K2 := Lib.hid (rHex_any s[p + 2])
            rw [hexI_some (ho2.out k2')] at K2
            have K3 := Lib.hid (rHex_any s[p + 3])
            rw [hexI_some (ho3.out k3')] at K3
            have hor := or16i x y hx hy
            have hlim : x * 16 + y < 256 := by omega
            have i2 := idx_is s (p + 2) k2' ((p : Int) + 2) (by omega)
            have i3 := idx_is s (p + 3) k3' ((p : Int) + 3) (by omega)
            clear HN2 HH hb2 ho2 ho3 g1 g2 g3
            go_upto_region 19 with fail
            refine wp_region_plan (Grows _) 17 [.reads [0, 1, 2, 3, 4, 7, 8, 9, 10], .act 5, .reads [6], .act 11, .reads [12, 13], .act 14, .act 15, .act 16, .act 17] (by kernel_rfl) (by kernel_rfl) (by kernel_rfl) (by kernel_rfl) (by kernel_rfl) (fun _ _ d _ _ h => by cases d <;> exact h) (Grows.self _) ?_
            refine wpPlan_reads ?_
            simp only [pickOps, List.drop_succ_cons, List.drop_zero, List.take_succ_cons, List.take_zero, List.cons_append, List.nil_append]
            repeat (go_big_quiet_step (fail))
            refine wpQuiet_nil ?_
            refine wpPlan_act rfl ?_
            simp only [pickOps, List.drop_succ_cons, List.drop_zero, List.take_succ_cons, List.take_zero, List.cons_append, List.nil_append]
            go_wp2_with fail
            ((with_reducible refine (K2.out _).mono ?_))
            rintro e w2 ⟨rfl, rfl⟩
            go_wp2_with fail
            refine ⟨fun _ => (Grows.self _), ?_⟩
            refine wpPlan_reads ?_
            simp only [pickOps, List.drop_succ_cons, List.drop_zero, List.take_succ_cons, List.take_zero, List.cons_append, List.nil_append]
            repeat (go_big_quiet_step (fail))
            refine wpQuiet_nil ?_
            refine wpPlan_act rfl ?_
            simp only [pickOps, List.drop_succ_cons, List.drop_zero, List.take_succ_cons, List.take_zero, List.cons_append, List.nil_append]
            go_wp2_with fail
            ((with_reducible refine (K3.out _).mono ?_))
            rintro e w2 ⟨rfl, rfl⟩
            go_wp2_with fail
            refine ⟨fun _ => (Grows.self _), ?_⟩
            refine wpPlan_reads ?_
            simp only [pickOps, List.drop_succ_cons, List.drop_zero, List.take_succ_cons, List.take_zero, List.cons_append, List.nil_append]
            repeat (go_big_quiet_step (fail))
            refine wpQuiet_nil ?_
            have HG := Lib.hid ((Grows.self w1).trans ((Below.refl _ _).alloc (Nat.le_refl _) (.cells #[.int .u8 ((x : Int) * 16 + y)] 5)))
            refine wpPlan_act rfl ?_
            simp only [pickOps, List.drop_succ_cons, List.drop_zero, List.take_succ_cons, List.take_zero, List.cons_append, List.nil_append]
            go_wp2_with fail
            refine ⟨fun _ => HG.out, ?_⟩
            refine wpPlan_act rfl ?_
            simp only [pickOps, List.drop_succ_cons, List.drop_zero, List.take_succ_cons, List.take_zero, List.cons_append, List.nil_append]
            go_wp2_with fail
            refine ⟨fun _ => HG.out, ?_⟩
            refine wpPlan_act rfl ?_
            simp only [pickOps, List.drop_succ_cons, List.drop_zero, List.take_succ_cons, List.take_zero, List.cons_append, List.nil_append]
            go_wp2_with fail
            refine ⟨fun _ => HG.out, ?_⟩
            refine wpPlan_act rfl ?_
            simp only [pickOps, List.drop_succ_cons, List.drop_zero, List.take_succ_cons, List.take_zero, List.cons_append, List.nil_append]
            go_wp2_with fail
            refine ⟨fun h => absurd h (by decide), ?_⟩
            refine wpPlan_nil ?_
            go_wp2_with fail
            go_roundw
            case rel => exact ⟨p + 4, l ++ [UInt8.ofNat (x * 16 + y)], by go_num, by simp, by omega, by rw [List.length_append]; simp; omega, HX2, Lib.hid (HB.out.trans (HG.out.mono HB.out.size))⟩
            case measure => simp [intOf]; omega
     ·have k1' := hb2.out rfl
      have HX2 := Lib.hid (HP.out rfl k1')
      clear HN HP HH hb2
      go_wp2_with fail
      go_roundw
      case rel => exact ⟨p + 2, l ++ [s[p + 1]], by go_num, by simp, by omega, by rw [List.length_append]; simp; omega, HX2, Lib.hid (HB.out.alloc HB.out.size _)⟩
      case measure => simp [intOf]; omega
   ·have HX2 := Lib.hid (HC.out e1 e2)
    have hne : ((s[p].toNat : Int) != 92) = true := by rw [bne, h92]; rfl
    clear e1 e2 H34 H92 HC
    have hc := s[p].toNat_lt
    by_cases h3 : (32 : Int) ≤ (s[p].toNat : Int)
    ·by_cases h4 : (s[p].toNat : Int) ≤ 126
     ·have HX3 : Hid (X = textF (s.drop (p + 1)) (l ++ [s[p]])) := Lib.hid (by rw [HX.out, HT.out, HX2.out, if_pos (by omega)])
      clear HT HX HX2
      go_wp2_with fail
      go_roundw
      case rel => exact ⟨p + 1, l ++ [s[p]], by go_num, by simp, by omega, by rw [List.length_append]; simp; omega, HX3, Lib.hid (HB.out.alloc HB.out.size _)⟩
      case measure => simp [intOf]; omega
     ·have HX3 : Hid (X = none) := Lib.hid (by rw [HX.out, HT.out, HX2.out, if_neg (by omega)])
      clear HT HX HX2
      go_wp2_with fail
      refine bodyPost_ret (results_tmp2 rfl _ _ _) rfl ?_
      exact ⟨by rw [HX3.out]; rfl, HB.out⟩
    ·have HX3 : Hid (X = none) := Lib.hid (by rw [HX.out, HT.out, HX2.out, if_neg (by omega)])
     clear HT HX HX2
     go_wp2_with fail
     refine bodyPost_ret (results_tmp2 rfl _ _ _) rfl ?_
     exact ⟨by rw [HX3.out]; rfl, HB.out⟩
  ·have HX3 : Hid (X = none) := Lib.hid (by rw [HX.out]; exact textF_end (by omega))
   clear HX
   go_wp2_with fail
   refine bodyPost_ret (results_tmp2 rfl _ _ _) rfl ?_
   exact ⟨by rw [HX3.out]; rfl, HB.out⟩
end Go.Proofs.YtnicnfchkdmieaaGreatDoor
