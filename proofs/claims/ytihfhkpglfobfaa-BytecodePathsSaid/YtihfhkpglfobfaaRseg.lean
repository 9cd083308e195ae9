/- The reference's segment: the walk. -/
import Derived.Test.YtihfhkpglfobfaaLex
import Derived.Test.YtihfhkpglfobfaaPath
namespace Go.Proofs.Ytihfhkpglfobfaa
open Go.RowKit
attribute [local go_sem] ByteArray.mk_append_mk bs_get bs_cut bs_end

/-- Do n bytes, followed by zeros up to the m-th, make a segment. -/
def hitB (s : List UInt8) (m n : Nat) : Bool := segB (s.take n) && (List.take (m - n) (List.drop n s) == List.take (m - n) [0, 0, 0])
/-- The first length, from n on, that makes a segment. -/
def findB (s : List UInt8) (m : Nat) : Nat → Nat → Option Nat
  | 0, _ => none
  | f + 1, n => if hitB s m n = true then some n else findB s m f (n + 1)
def refSeg (s : List UInt8) : List UInt8 × Nat :=
  if 4 ≤ s.length then match findB s 4 4 1 with
    | some n => (s.take n, 0)
    | none => ([], 3)
  else if s = [] then ([], 4) else match findB s s.length s.length 1 with
    | some _ => ([], 4)
    | none => ([], 3)
theorem quiet_same {P : Program} {f : FuncId} {args : Array Value} {w : World} {n : Nat} {v : Value}
    (h : Calls P f args (w.drewN n) fun e w' => e = .returned v ∧ w.drewN n = w') : Calls P f args (w.drewN n) fun e w'' => e = .returned v ∧ ∃ m, w'' = w.drewN m :=
  h.mono fun _ _ ⟨he, hm⟩ => ⟨he, n, hm.symm⟩
set_option maxHeartbeats 1000000 in
theorem rseg_4 (s : List UInt8) (w : World) (hs : s.length ≤ 9223372036854775000) (h4 : 4 ≤ s.length) :
    Calls Try.prog 39 #[.string ⟨s.toArray⟩] w fun e w' => e = .returned (resG (refSeg s)) ∧ Below w.heap.size w w' := by
  have HR : Hid (refSeg s = match findB s 4 4 1 with
    | some n => (s.take n, 0)
    | none => ([], 3)) := Lib.hid (if_pos h4)
  have h4' : (4 : Int) ≤ s.length := by omega
  go_enter Try.func39, Try.ntmps39
  go_wp2_with fail
  go_loopw [4] (fun v wr => ∃ n : Nat, v = .int .i64 n ∧ 1 ≤ n ∧ n ≤ 5 ∧ Hid (findB s 4 4 1 = findB s 4 (5 - n) n) ∧ Hid (Below w.heap.size w wr)) (fun v _ => 5 - (intOf v).toNat)
  case atStart => exact ⟨1, rfl, by omega, by omega, Lib.hid rfl, Lib.hid (Below.refl _ _)⟩
  case round =>
    obtain ⟨n, rfl, hn1, hn5, HF, HB⟩ := hrel
    by_cases h5 : n = 5
    · subst h5
      have HR2 : Hid (refSeg s = ([], 3)) := Lib.hid (by rw [HR.out, HF.out]; rfl)
      go_wp2_with fail
      go_ret2
      exact ⟨by rw [HR2.out]; rfl, HB.out⟩
    · have hn4 : n ≤ 4 := by omega
      have HS : Hid (findB s 4 (5 - n) n = if hitB s 4 n = true then some n else findB s 4 (5 - (n + 1)) (n + 1)) := Lib.hid (by rw [show 5 - n = (5 - (n + 1)) + 1 by omega]; rfl)
      have hl1 : (List.take n s).length ≤ 9223372036854775000 := by rw [List.length_take]; omega
      have i1 : (n : Int) ≤ 4 := by omega
      have i2 : (0 : Int) ≤ 4 - n := by omega
      have hw1 : IntKind.i64.wrap (4 - (n : Int)) = 4 - (n : Int) := IntWalk.i64_in _ (by omega)
      have hw2 : (4 - (n : Int)).toNat = 4 - n := by omega
      by_cases hseg : segB (List.take n s) = true
      · by_cases heq : (List.take (4 - n) (List.drop n s) == List.take (4 - n) [0, 0, 0]) = true
        · have HR2 : Hid (refSeg s = (s.take n, 0)) := Lib.hid (by rw [HR.out, HF.out, HS.out, if_pos (by unfold hitB; rw [hseg, heq]; rfl)])
          go_wp2_with fail
          go_quiet ((go_at_call 41; with_reducible refine quiet_same (segmentB_any (List.take n s) _ hl1)))
          clear hw1 hw2
          go_wp2_with fail
          go_ret2
          exact ⟨by rw [HR2.out]; rfl, below_drewN HB.out _⟩
        · have heq' : (List.take (4 - n) (List.drop n s) == List.take (4 - n) [0, 0, 0]) = false := by simpa using heq
          have HF2 : Hid (findB s 4 4 1 = findB s 4 (5 - (n + 1)) (n + 1)) := Lib.hid (by rw [HF.out, HS.out, if_neg (by unfold hitB; rw [hseg, heq']; decide)])
          clear heq HF HS
          go_wp2_with fail
          go_quiet ((go_at_call 41; with_reducible refine quiet_same (segmentB_any (List.take n s) _ hl1)))
          clear hw1 hw2
          go_wp2_with fail
          go_roundw
          case rel => exact ⟨n + 1, by go_num, by omega, by omega, HF2, Lib.hid (below_drewN HB.out _)⟩
          case measure => simp [intOf]; omega
      · have hseg' : segB (List.take n s) = false := by simpa using hseg
        have HF2 : Hid (findB s 4 4 1 = findB s 4 (5 - (n + 1)) (n + 1)) := Lib.hid (by rw [HF.out, HS.out, if_neg (by unfold hitB; rw [hseg']; simp)])
        clear hseg HF HS
        go_wp2_with fail
        go_quiet ((go_at_call 41; with_reducible refine quiet_same (segmentB_any (List.take n s) _ hl1)))
        clear hw1 hw2
        go_wp2_with fail
        go_roundw
        case rel => exact ⟨n + 1, by go_num, by omega, by omega, HF2, Lib.hid (below_drewN HB.out _)⟩
        case measure => simp [intOf]; omega
set_option maxHeartbeats 1000000 in
theorem rseg_nil (w : World) :
    Calls Try.prog 39 #[.string ⟨#[]⟩] w fun e w' => e = .returned (resG (refSeg [])) ∧ Below w.heap.size w w' := by
  go_enter Try.func39, Try.ntmps39
  go_wp2_with fail
  go_loopw [4] (fun v wr => ∃ n : Nat, v = .int .i64 n ∧ 1 ≤ n ∧ n ≤ 5 ∧ Hid (Below w.heap.size w wr)) (fun v _ => 5 - (intOf v).toNat)
  case atStart => exact ⟨1, rfl, by omega, by omega, Lib.hid (Below.refl _ _)⟩
  case round =>
    obtain ⟨n, rfl, hn1, hn5, HB⟩ := hrel
    by_cases h5 : n = 5
    · subst h5
      go_wp2_with fail
      go_ret2
      exact ⟨rfl, HB.out⟩
    · go_wp2_with fail
      go_quiet (fail)
      go_wp2_with fail
      go_roundw
      case rel => exact ⟨n + 1, by go_num, by omega, by omega, Lib.hid (below_drewN HB.out _)⟩
      case measure => simp [intOf]; omega
set_option maxHeartbeats 1000000 in
theorem rseg_few (s : List UInt8) (w : World) (h4 : ¬ 4 ≤ s.length) (hne : s.isEmpty = false) :
    Calls Try.prog 39 #[.string ⟨s.toArray⟩] w fun e w' => e = .returned (resG (refSeg s)) ∧ Below w.heap.size w w' := by
  have hs : s.length ≤ 3 := by omega
  have h4' : ¬ (4 : Int) ≤ s.length := by omega
  have h4'' : decide (4 ≤ s.length) = false := by rw [decide_eq_false_iff_not]; exact h4
  have h4i : decide ((4 : Int) ≤ s.length) = false := by rw [decide_eq_false_iff_not]; exact h4'
  have HR : Hid (refSeg s = match findB s s.length s.length 1 with
          | some _ => ([], 4)
          | none => ([], 3)) := Lib.hid (by rw [refSeg, if_neg h4, if_neg (by intro h; rw [h] at hne; cases hne)])
  go_enter Try.func39, Try.ntmps39
  go_upto_block 0 with fail
  go_cut [] (fun wx => Hid (Below w.heap.size w wx))
  case first =>
    go_wp2_with fail
    go_loopw [4] (fun v wr => ∃ n : Nat, v = .int .i64 n ∧ 1 ≤ n ∧ n ≤ 5 ∧ Hid (Below w.heap.size w wr)) (fun v _ => 5 - (intOf v).toNat)
    case atStart => exact ⟨1, rfl, by omega, by omega, Lib.hid (Below.refl _ _)⟩
    case round =>
      obtain ⟨n, rfl, hn1, hn5, HB⟩ := hrel
      by_cases h5 : n = 5
      · subst h5
        go_wp2_with fail
        go_meet
        exact HB
      · go_wp2_with fail
        go_quiet (fail)
        go_wp2_with fail
        go_roundw
        case rel => exact ⟨n + 1, by go_num, by omega, by omega, Lib.hid (below_drewN HB.out _)⟩
        case measure => simp [intOf]; omega
  case rest =>
    have HB := hcut
    clear hcut
    go_wp2_with fail
    go_loopw [5] (fun v w2 => ∃ n : Nat, v = .int .i64 n ∧ 1 ≤ n ∧ n ≤ s.length + 1 ∧ Hid (findB s s.length s.length 1 = findB s s.length (s.length + 1 - n) n) ∧ Hid (Below w.heap.size w w2)) (fun v _ => 5 - (intOf v).toNat)
    case atStart => exact ⟨1, rfl, by omega, by omega, Lib.hid rfl, HB⟩
    case round =>
      obtain ⟨n, rfl, hn1, hn5, HF, HB⟩ := hrel
      by_cases hle : n ≤ s.length
      · have HS : Hid (findB s s.length (s.length + 1 - n) n = if hitB s s.length n = true then some n else findB s s.length (s.length + 1 - (n + 1)) (n + 1)) := Lib.hid (by rw [show s.length + 1 - n = (s.length + 1 - (n + 1)) + 1 by omega]; rfl)
        have hl1 : (List.take n s).length ≤ 9223372036854775000 := by rw [List.length_take]; omega
        have i1 : (n : Int) ≤ s.length := by omega
        have i2 : (0 : Int) ≤ s.length - n := by omega
        have hw1 : IntKind.i64.wrap ((s.length : Int) - (n : Int)) = (s.length : Int) - (n : Int) := IntWalk.i64_in _ (by omega)
        have hw2 : ((s.length : Int) - (n : Int)).toNat = s.length - n := by omega
        have hw3 : (s.length : Int) - (n : Int) ≤ 3 := by omega
        by_cases hseg : segB (List.take n s) = true
        · by_cases heq : (List.drop n s == List.take (s.length - n) [0, 0, 0]) = true
          · have HR2 : Hid (refSeg s = ([], 4)) := Lib.hid (by rw [HR.out, HF.out, HS.out, if_pos (by unfold hitB; rw [bs_end, hseg, heq]; rfl)])
            go_wp2_with fail
            go_quiet ((go_at_call 41; with_reducible refine quiet_same (segmentB_any (List.take n s) _ hl1)))
            clear hw1 hw2
            go_wp2_with fail
            go_ret2
            exact ⟨by rw [HR2.out]; rfl, below_drewN HB.out _⟩
          · have heq' : (List.drop n s == List.take (s.length - n) [0, 0, 0]) = false := by simpa using heq
            have HF2 : Hid (findB s s.length s.length 1 = findB s s.length (s.length + 1 - (n + 1)) (n + 1)) := Lib.hid (by rw [HF.out, HS.out, if_neg (by unfold hitB; rw [bs_end, hseg, heq']; decide)])
            clear heq HF HS
            go_wp2_with fail
            go_quiet ((go_at_call 41; with_reducible refine quiet_same (segmentB_any (List.take n s) _ hl1)))
            clear hw1 hw2
            go_wp2_with fail
            go_roundw
            case rel => exact ⟨n + 1, by go_num, by omega, by omega, HF2, Lib.hid (below_drewN HB.out _)⟩
            case measure => simp [intOf]; omega
        · have hseg' : segB (List.take n s) = false := by simpa using hseg
          have HF2 : Hid (findB s s.length s.length 1 = findB s s.length (s.length + 1 - (n + 1)) (n + 1)) := Lib.hid (by rw [HF.out, HS.out, if_neg (by unfold hitB; rw [hseg']; simp)])
          have HSG := Lib.hid hseg'
          clear hseg hseg' HF HS
          go_wp2_with fail
          go_quiet ((go_at_call 41; with_reducible refine quiet_same (segmentB_is (List.take n s) false HSG _ hl1)))
          clear hw1 hw2
          go_wp2_with fail
          go_roundw
          case rel => exact ⟨n + 1, by go_num, by omega, by omega, HF2, Lib.hid (below_drewN HB.out _)⟩
          case measure => simp [intOf]; omega
      · have HR2 : Hid (refSeg s = ([], 3)) := Lib.hid (by rw [HR.out, HF.out, show s.length + 1 - n = 0 by omega]; rfl)
        have hle' : ¬ (n : Int) ≤ s.length := by omega
        go_wp2_with fail
        go_ret2
        exact ⟨by rw [HR2.out]; rfl, HB.out⟩
theorem rsegment_any (s : List UInt8) (w : World) (hs : s.length ≤ 9223372036854775000) :
    Calls Try.prog 39 #[.string ⟨s.toArray⟩] w fun e w' => e = .returned (resG (refSeg s)) ∧ Below w.heap.size w w' := by
  by_cases h4 : 4 ≤ s.length
  · exact rseg_4 s w hs h4
  · match s, h4 with
    | [], _ => exact rseg_nil w
    | c :: r, h4 => exact rseg_few (c :: r) w h4 rfl
end Go.Proofs.Ytihfhkpglfobfaa
