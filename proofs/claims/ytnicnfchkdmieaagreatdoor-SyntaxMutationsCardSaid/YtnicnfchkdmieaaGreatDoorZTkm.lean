/- Tkm -/
import Derived.Test.YtnicnfchkdmieaaGreatDoorZTkl
set_option linter.unusedVariables false
set_option linter.unusedSimpArgs false
namespace Go.Proofs.YtnicnfchkdmieaaGreatDoor
open Go.RowKit
attribute [local go_sem] ByteArray.mk_append_mk bs_get bs_cut bs_end
theorem line_at {s : List UInt8} {q : Nat} (h : q < s.length) : (s.drop q).dropWhile (· != 10) = if s[q] = 10 then s.drop q else (s.drop (q + 1)).dropWhile (· != 10) := by
 rw [List.drop_eq_getElem_cons h, List.dropWhile_cons]
 by_cases e : s[q] = 10
 ·rw [if_pos e, if_neg (by rw [e]; decide)]
 ·rw [if_neg e, if_pos (by rw [bne, beq_eq_false_iff_ne.2 e]; rfl)]
theorem close_short {s : List UInt8} (h : s.length ≤ 1) : closeL s = none := by
 match s, h with
 | [], _ => rfl
 | [a], _ =>
   rw [closeL]
   ·rfl
   ·intro r h1 h2; cases h2
theorem close_at {s : List UInt8} {q : Nat} (h : q + 1 < s.length) : closeL (s.drop q) = if s[q] = 42 ∧ s[q + 1] = 47 then some (s.drop (q + 2)) else closeL (s.drop (q + 1)) := by
 rw [List.drop_eq_getElem_cons (i := q) (by omega), List.drop_eq_getElem_cons (i := q + 1) h]
 by_cases e : s[q] = 42 ∧ s[q + 1] = 47
 ·rw [if_pos e, e.1, e.2, closeL]
 ·rw [if_neg e, closeL]
  intro r h1 h2
  injection h2 with h2 _
  exact e ⟨h1, h2⟩
theorem skip_at_line {s : List UInt8} {p : Nat} (h : p + 1 < s.length) (h1 : s[p] = 47) (h2 : s[p + 1] = 47) : skipL (s.drop p) = skipL ((s.drop p).dropWhile (· != 10)) := by
 rw [List.drop_eq_getElem_cons (i := p) (by omega), List.drop_eq_getElem_cons (i := p + 1) h, h1, h2, skipL_line]
theorem skip_at_block {s : List UInt8} {p : Nat} (h : p + 1 < s.length) (h1 : s[p] = 47) (h2 : s[p + 1] = 42) : skipL (s.drop p) = match closeL (s.drop (p + 2)) with
 | some t => skipL t
 | none => (s.drop p, false) := by
 rw [List.drop_eq_getElem_cons (i := p) (by omega), List.drop_eq_getElem_cons (i := p + 1) h, h1, h2]
 split
 ·next t ht => exact skipL_block ht
 ·next ht => exact skipL_open ht
theorem skip_at_stop {s : List UInt8} {p : Nat} (h : p < s.length) (hb : blankB s[p] = false) (h2 : ∀ k : p + 1 < s.length, s[p] = 47 → s[p + 1] ≠ 47 ∧ s[p + 1] ≠ 42) : skipL (s.drop p) = (s.drop p, true) := by
 rw [List.drop_eq_getElem_cons h]
 refine skipL_stop hb fun e t => ?_
 by_cases k : p + 1 < s.length
 ·obtain ⟨n1, n2⟩ := h2 k e
  rw [List.drop_eq_getElem_cons k]
  exact ⟨fun h => by injection h with h _; exact n1 h, fun h => by injection h with h _; exact n2 h⟩
 ·rw [List.drop_eq_nil_of_le (by omega)]
  exact ⟨fun h => (by cases h), fun h => (by cases h)⟩
def blockS (o : Option (List UInt8)) (d : List UInt8) : List UInt8 × Bool := match o with
 | some t => skipL t
 | none => (d, false)
set_option maxRecDepth 100000 in
set_option maxHeartbeats 8000000 in
theorem rSkip_any (s : List UInt8) (p0 : Nat) (w : World) (hs : s.length ≤ 9223372036854770000) (h0 : p0 ≤ s.length) :
 Calls Tryz.prog 28 #[.string ⟨s.toArray⟩, .int .i64 p0] w fun e w' => e = .returned (skipTup s.length (skipL (s.drop p0))) ∧ w = w' := by
 obtain ⟨X, hX⟩ : ∃ X, Hid (skipL (s.drop p0) = X) := ⟨_, Lib.hid rfl⟩
 rw [hX.out]
 go_enter Tryz.func28, Tryz.ntmps28
 go_wp2_with fail
 go_loop [1] (fun i => ∃ p : Nat, i = .int .i64 p ∧ p ≤ s.length ∧ Hid (X = skipL (s.drop p))) (fun i => s.length - (intOf i).toNat)
 case atStart => exact ⟨p0, rfl, h0, Lib.hid hX.out.symm⟩
 case round =>
  obtain ⟨p, rfl, hp, HX⟩ := hrel
  by_cases hlt : p < s.length
  ·have hdl : s.length - (s.drop p).length = p := by rw [List.length_drop]; omega
   have HDL := Lib.hid hdl
   clear hdl
   cases hb : blankB s[p]
   ·have HB := Lib.hid hb
    obtain ⟨b1, b2, b3, b4⟩ := blank_no hb
    clear hb
    have H47 := Lib.hid (byte_cases s[p] 47 47 rfl)
    rcases H47.out with ⟨e1, h47⟩ | ⟨e1, h47⟩
    ·by_cases hl2 : (p : Int) + 1 < (s.length : Int)
     ·have hl2' : p + 1 < s.length := by omega
      have J47 := Lib.hid (byte_cases s[p + 1] 47 47 rfl)
      have J42 := Lib.hid (byte_cases s[p + 1] 42 42 rfl)
      rcases J47.out with ⟨g1, g47⟩ | ⟨g1, g47⟩
      ·have HX2 : Hid (X = skipL ((s.drop p).dropWhile (· != 10))) := Lib.hid (by rw [HX.out]; exact skip_at_line hl2' e1 g1)
       have HNE : Hid (s[p] ≠ 10) := Lib.hid (by rw [e1]; decide)
       clear e1 g1 J47 J42 H47 HB HX
       go_wp2_with fail
       go_loop [1] (fun i => ∃ q : Nat, i = .int .i64 q ∧ p ≤ q ∧ q ≤ s.length ∧ Hid (X = skipL ((s.drop q).dropWhile (· != 10)))) (fun i => s.length - (intOf i).toNat)
       case atStart => exact ⟨p, rfl, by omega, by omega, HX2⟩
       case round =>
        clear HX2
        obtain ⟨q, rfl, hq1, hq, HX⟩ := hrel
        by_cases hqlt : q < s.length
        ·have HL := Lib.hid (line_at hqlt)
         rcases byte_cases s[q] 10 10 rfl with ⟨k1, k10⟩ | ⟨k1, k10⟩
         ·have hne10 : ((s[q].toNat : Int) != 10) = false := by rw [bne, k10]; rfl
          have HX2 : Hid (X = skipL (s.drop q)) := Lib.hid (by rw [HX.out, HL.out, if_pos k1])
          have hqp : q ≠ p := by rintro rfl; exact HNE.out k1
          clear k1 HX HL
          go_wp2_with fail
          go_round
          case rel => exact ⟨q, rfl, by omega, HX2⟩
          case measure => simp [intOf]; omega
         ·have hne10 : ((s[q].toNat : Int) != 10) = true := by rw [bne, k10]; rfl
          have HX2 : Hid (X = skipL ((s.drop (q + 1)).dropWhile (· != 10))) := Lib.hid (by rw [HX.out, HL.out, if_neg k1])
          clear k1 HX HL
          go_wp2_with fail
          go_round
          case rel => exact ⟨q + 1, by go_num, by omega, by omega, HX2⟩
          case measure => simp [intOf]; omega
        ·have HX2 : Hid (X = skipL (s.drop q)) := Lib.hid (by rw [HX.out, List.drop_eq_nil_of_le (by omega)]; rfl)
         clear HX
         go_wp2_with fail
         go_round
         case rel => exact ⟨q, rfl, by omega, HX2⟩
         case measure => simp [intOf]; omega
      ·rcases J42.out with ⟨g2, g42⟩ | ⟨g2, g42⟩
       ·have HX2 : Hid (X = blockS (closeL (s.drop (p + 2))) (s.drop p)) := Lib.hid (by rw [HX.out]; exact skip_at_block hl2' e1 g2)
        clear e1 g1 g2 J47 J42 H47 HB HX
        go_upto_region 10 with fail
        go_wp2_with fail
        go_loop [6] (fun i => ∃ q : Nat, i = .int .i64 q ∧ p + 2 ≤ q ∧ q ≤ s.length ∧ Hid (X = blockS (closeL (s.drop q)) (s.drop p))) (fun i => s.length - (intOf i).toNat)
        case atStart => exact ⟨p + 2, by go_num, by omega, by omega, HX2⟩
        case round =>
         clear HX2
         obtain ⟨q, rfl, hq1, hq, HX⟩ := hrel
         by_cases hq2 : (q : Int) + 1 < (s.length : Int)
         ·have hq2' : q + 1 < s.length := by omega
          have HC := Lib.hid (close_at hq2')
          rcases byte_cases s[q] 42 42 rfl with ⟨k1, k42⟩ | ⟨k1, k42⟩
          ·have n42 : ((s[q].toNat : Int) != 42) = false := by rw [bne, k42]; rfl
           rcases byte_cases s[q + 1] 47 47 rfl with ⟨k2, k47⟩ | ⟨k2, k47⟩
           ·have n47 : ((s[q + 1].toNat : Int) != 47) = false := by rw [bne, k47]; rfl
            have HX2 : Hid (X = skipL (s.drop (q + 2))) := Lib.hid (by rw [HX.out, HC.out, if_pos ⟨k1, k2⟩]; rfl)
            clear k1 k2 HX HC
            go_wp2_with fail
            go_round
            case rel => exact ⟨q + 2, by go_num, by omega, HX2⟩
            case measure => simp [intOf]; omega
           ·have n47 : ((s[q + 1].toNat : Int) != 47) = true := by rw [bne, k47]; rfl
            have HX2 : Hid (X = blockS (closeL (s.drop (q + 1))) (s.drop p)) := Lib.hid (by rw [HX.out, HC.out, if_neg (fun h => k2 h.2)])
            clear k1 k2 HX HC
            go_wp2_with fail
            go_round
            case rel => exact ⟨q + 1, by go_num, by omega, by omega, HX2⟩
            case measure => simp [intOf]; omega
          ·have n42 : ((s[q].toNat : Int) != 42) = true := by rw [bne, k42]; rfl
           have HX2 : Hid (X = blockS (closeL (s.drop (q + 1))) (s.drop p)) := Lib.hid (by rw [HX.out, HC.out, if_neg (fun h => k1 h.1)])
           clear k1 HX HC
           go_wp2_with fail
           go_round
           case rel => exact ⟨q + 1, by go_num, by omega, by omega, HX2⟩
           case measure => simp [intOf]; omega
         ·have HX2 : Hid (X = (s.drop p, false)) := Lib.hid (by rw [HX.out, close_short (by rw [List.length_drop]; omega)]; rfl)
          clear HX
          go_wp2_with fail
          refine bodyPost_ret (results_tmp2 rfl _ _ _) rfl ?_
          exact ⟨by rw [HX2.out]; unfold skipTup; simp only []; rw [HDL.out]; rfl, rfl⟩
       ·have HX2 : Hid (X = (s.drop p, true)) := Lib.hid (by rw [HX.out]; exact skip_at_stop hlt HB.out fun k _ => ⟨g1, g2⟩)
        clear e1 g1 g2 J47 J42 H47 HB HX
        go_wp2_with fail
        refine bodyPost_ret (results_tmp2 rfl _ _ _) rfl ?_
        exact ⟨by rw [HX2.out]; unfold skipTup; simp only []; rw [HDL.out]; rfl, rfl⟩
     ·have HX2 : Hid (X = (s.drop p, true)) := Lib.hid (by rw [HX.out]; exact skip_at_stop hlt HB.out fun k _ => by omega)
      clear e1 H47 HB HX
      go_wp2_with fail
      refine bodyPost_ret (results_tmp2 rfl _ _ _) rfl ?_
      exact ⟨by rw [HX2.out]; unfold skipTup; simp only []; rw [HDL.out]; rfl, rfl⟩
    ·have HX2 : Hid (X = (s.drop p, true)) := Lib.hid (by rw [HX.out]; exact skip_at_stop hlt HB.out fun k e => absurd e e1)
     clear e1 H47 HB HX
     by_cases hl2 : (p : Int) + 1 < (s.length : Int)
     ·go_wp2_with fail
      refine bodyPost_ret (results_tmp2 rfl _ _ _) rfl ?_
      exact ⟨by rw [HX2.out]; unfold skipTup; simp only []; rw [HDL.out]; rfl, rfl⟩
     ·go_wp2_with fail
      refine bodyPost_ret (results_tmp2 rfl _ _ _) rfl ?_
      exact ⟨by rw [HX2.out]; unfold skipTup; simp only []; rw [HDL.out]; rfl, rfl⟩
   ·have HX2 : Hid (X = skipL (s.drop (p + 1))) := Lib.hid (by rw [HX.out, List.drop_eq_getElem_cons hlt, skipL_blank hb])
    have HB := Lib.hid (blank_yes hb)
    clear hb HX
    go_upto_region 3 with fail
    go_cut [12] (fun z wx => z = .bool true ∧ w = wx)
    case first =>
     rcases HB.out with b1 | ⟨b1, b2⟩ | ⟨b1, b2, b3⟩ | ⟨b1, b2, b3, b4⟩
     ·go_wp2_with fail
      go_meet
      exact ⟨rfl, rfl⟩
     ·go_wp2_with fail
      go_meet
      exact ⟨rfl, rfl⟩
     ·go_wp2_with fail
      go_meet
      exact ⟨rfl, rfl⟩
     ·go_wp2_with fail
      go_meet
      exact ⟨rfl, rfl⟩
    case rest =>
     obtain ⟨rfl, rfl⟩ := hcut
     go_wp2_with fail
     go_round
     case rel => exact ⟨p + 1, by go_num, by omega, HX2⟩
     case measure => simp [intOf]; omega
  ·have HX3 : Hid (X = ([], true)) := Lib.hid (by rw [HX.out, List.drop_eq_nil_of_le (by omega)]; rfl)
   have hpl : p = s.length := by omega
   subst hpl
   clear HX
   go_wp2_with fail
   refine bodyPost_ret (results_tmp2 rfl _ _ _) rfl ?_
   exact ⟨by rw [HX3.out]; rfl, rfl⟩
end Go.Proofs.YtnicnfchkdmieaaGreatDoor
