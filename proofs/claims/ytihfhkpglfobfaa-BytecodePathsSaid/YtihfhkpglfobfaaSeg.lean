/- segment: the walk. -/
import Derived.Test.YtihfhkpglfobfaaStrs
namespace Go.Proofs.Ytihfhkpglfobfaa
open Go.RowKit
attribute [local go_sem] conv1 conv2 ByteArray.mk_append_mk get_mk cut_mk

/-- May the byte stand at place i of a segment. -/
def segOk (c i : Nat) : Bool := decide ((65 ≤ c ∧ c ≤ 90) ∨ c = 95 ∨ ((48 ≤ c ∧ c ≤ 57) ∧ 0 < i))
/-- The segment's length behind the byte at place i; none: malformed. -/
def segNext (c i n : Nat) : Option Nat := if c = 0 ∧ 0 < i then some n else if n < i then none else if segOk c i = true then some (i + 1) else none
def segGo (s : List UInt8) : Nat → Nat → Nat → List UInt8 × Nat
  | 0, _, n => (s.take n, 0)
  | f + 1, i, n => match s[i]? with
    | none => ([], 4)
    | some c => match segNext c.toNat i n with
      | none => ([], 3)
      | some m => segGo s f (i + 1) m
/-- What segment returns. -/
def rdSeg (s : List UInt8) : List UInt8 × Nat := segGo s 4 0 0
def resG (x : List UInt8 × Nat) : Value := .tuple #[.string ⟨x.1.toArray⟩, .int .i64 x.2]

theorem segGo_none (s : List UInt8) (f i n : Nat) (h : s.length ≤ i) : segGo s (f + 1) i n = ([], 4) := by
  rw [segGo, List.getElem?_eq_none h]
theorem segGo_some (s : List UInt8) (f i n : Nat) (h : i < s.length) : segGo s (f + 1) i n = match segNext s[i].toNat i n with
      | none => ([], 3)
      | some m => segGo s f (i + 1) m := by
  rw [segGo, List.getElem?_eq_getElem h]

theorem segNext_skip {c i n : Nat} (h : c = 0) (h1 : 0 < i) : segNext c i n = some n := if_pos ⟨h, h1⟩
theorem segNext_gap {c i n : Nat} (h : ¬ (c = 0 ∧ 0 < i)) (h1 : n < i) : segNext c i n = none := by rw [segNext, if_neg h, if_pos h1]
theorem segNext_ok {c i n : Nat} (h : ¬ (c = 0 ∧ 0 < i)) (h1 : ¬ n < i) (h2 : (65 ≤ c ∧ c ≤ 90) ∨ c = 95 ∨ ((48 ≤ c ∧ c ≤ 57) ∧ 0 < i)) : segNext c i n = some (i + 1) := by rw [segNext, if_neg h, if_neg h1, if_pos (by rw [segOk, decide_eq_true h2])]
theorem segNext_bad {c i n : Nat} (h : ¬ (c = 0 ∧ 0 < i)) (h1 : ¬ n < i) (h2 : ¬ ((65 ≤ c ∧ c ≤ 90) ∨ c = 95 ∨ ((48 ≤ c ∧ c ≤ 57) ∧ 0 < i))) : segNext c i n = none := by rw [segNext, if_neg h, if_neg h1, if_neg (by rw [segOk, decide_eq_false h2]; decide)]
set_option maxHeartbeats 1000000 in
theorem segment_any (s : List UInt8) (w : World) (hm : s.length ≤ 9223372036854775000) :
    Calls Try.prog 38 #[.string ⟨s.toArray⟩] w fun e w' => e = .returned (resG (rdSeg s)) ∧ w = w' := by
  go_enter Try.func38, Try.ntmps38
  go_wp2_with fail
  go_loop [4, 8] (fun n i => ∃ n0 i0 : Nat, n = .int .i64 n0 ∧ i = .int .i64 i0 ∧ i0 ≤ 4 ∧ n0 ≤ i0 ∧ n0 ≤ s.length ∧ rdSeg s = segGo s (4 - i0) i0 n0) (fun n i => 4 - (intOf i).toNat)
  case atStart => exact ⟨0, 0, rfl, rfl, by omega, by omega, by omega, rfl⟩
  case round =>
    obtain ⟨n, i, rfl, rfl, hi, hn, hns, hr⟩ := hrel
    have HR := Lib.hid hr
    clear hr
    by_cases h4 : i < 4
    · obtain ⟨f, hf⟩ : ∃ f, 4 - i = f + 1 := ⟨3 - i, by omega⟩
      by_cases hl : i < s.length
      · have HR2 : Hid (rdSeg s = match segNext s[i].toNat i n with
            | none => ([], 3)
            | some m => segGo s (4 - (i + 1)) (i + 1) m) := Lib.hid (by rw [HR.out, hf, segGo_some s f i n hl, show 4 - (i + 1) = f by omega])
        clear HR hf
        have hc := s[i].toNat_lt
        generalize hcc : s[i].toNat = c at *
        have hl' : ¬ (s.length : Int) ≤ i := by omega
        have hgi : s[i]? = some s[i] := List.getElem?_eq_getElem hl
        go_wp2_with fail
        all_goals first
          | (go_ret2
             first
               | exact ⟨by rw [HR2.out, segNext_gap (by omega) (by omega)]; rfl, rfl⟩
               | exact ⟨by rw [HR2.out, segNext_bad (by omega) (by omega) (by omega)]; rfl, rfl⟩)
          | (go_round
             case measure => simp [intOf]; omega
             case rel =>
               first
                 | exact ⟨n, i + 1, rfl, by go_num, by omega, by omega, by omega, by rw [HR2.out, segNext_skip (by omega) (by omega)]⟩
                 | (exfalso; rename_i hx; simp only [beq_iff_eq] at hx; omega)
                 | (exfalso; rename_i hx; simp at hx; omega)
                 | (rename_i hx; simp only [beq_iff_eq] at hx; exact ⟨i + 1, i + 1, by go_num, by go_num, by omega, by omega, by omega, by rw [HR2.out, segNext_ok (by omega) (by omega) (by omega)]⟩)
                 | exact ⟨i + 1, i + 1, by go_num, by go_num, by omega, by omega, by omega, by rw [HR2.out, segNext_ok (by omega) (by omega) (by omega)]⟩)
      · have HR2 : Hid (rdSeg s = ([], 4)) := Lib.hid (by rw [HR.out, hf, segGo_none s f i n (by omega)])
        have hl' : (s.length : Int) ≤ i := by omega
        go_wp2_with fail
        go_ret2
        exact ⟨by rw [HR2.out]; rfl, rfl⟩
    · obtain rfl : i = 4 := by omega
      go_wp2_with fail
      go_ret2
      refine ⟨by rw [HR.out]; rfl, rfl⟩
end Go.Proofs.Ytihfhkpglfobfaa
