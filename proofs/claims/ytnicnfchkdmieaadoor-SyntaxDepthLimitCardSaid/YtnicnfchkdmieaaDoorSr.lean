/- Equal of nodes, awake; nested blocks: plain laws and walks. -/
import Derived.Test.YtnicnfchkdmieaaDoorSq
namespace Go.Proofs.YtnicnfchkdmieaaDoor
open Go.RowKit
set_option linter.unusedVariables false
set_option linter.unusedSimpArgs false
attribute [local go_sem] ByteArray.mk_append_mk bs_get bs_cut bs_end

theorem nd_eqIn (a b d a' b' d' : Int) (s s' : List UInt8) (w : World) : (Op.equalIn 10000 41 (.agg #[.int .i64 a, .int .u64 b, .string ⟨s.toArray⟩, .int .i64 d]) (.agg #[.int .i64 a', .int .u64 b', .string ⟨s'.toArray⟩, .int .i64 d'])).run Tryd.prog w = .ok (a == a' && b == b' && s == s' && d == d') w := by
  have hS : Tryd.prog.underlying 41 = some (.struct (Tryd.prog.fieldsOf 41)) := by kernel_rfl
  have hp : Tryd.prog.stoodInHeld 41 = false := by kernel_rfl
  rw [show (10000 : Nat) = 9999 + 1 from rfl, run_equalIn_agg w 9999 41 _ _ hS hp]
  simp only [Program.fieldsOf, Tryd.underlying41]
  have u3 := Tryd.underlying3
  have u5 := Tryd.underlying39
  have u9 := Tryd.underlying9
  go_simp
  by_cases h1 : a = a' <;> by_cases h2 : b = b' <;> by_cases h3 : s = s' <;> by_cases h4 : d = d' <;> simp [h1, h2, h3, h4]
theorem nd_neq (a b d a' b' d' : Int) (s s' : List UInt8) (w : World) : (binOp .neq 41 (.agg #[.int .i64 a, .int .u64 b, .string ⟨s.toArray⟩, .int .i64 d]) (.agg #[.int .i64 a', .int .u64 b', .string ⟨s'.toArray⟩, .int .i64 d'])).run Tryd.prog w = .ok (.bool (!(a == a' && b == b' && s == s' && d == d'))) w := by
  rw [run_neq_struct, nd_eqIn]; rfl
theorem nd_same (a b d : Int) (s : List UInt8) (w : World) : (binOp .neq 41 (.agg #[.int .i64 a, .int .u64 b, .string ⟨s.toArray⟩, .int .i64 d]) (.agg #[.int .i64 a, .int .u64 b, .string ⟨s.toArray⟩, .int .i64 d])).run Tryd.prog w = .ok (.bool false) w := by
  rw [nd_neq]; simp
theorem NSl.cells {w : World} {a : Option Addr} {n c : Nat} {l : List Nd} (h : NSl w (.slice a n c) l) (i : Nat) (hi : i < l.length) : ∃ b off, a = some ⟨b, off, none⟩ ∧ TAt w b (off + i * 4) l[i] := by
  obtain ⟨⟨a', cap', hv, hc⟩, _⟩ := h
  injection hv with e1 _ _
  subst e1
  obtain ⟨b, off, e, hk⟩ := hc (by rintro rfl; simp at hi)
  exact ⟨b, off, e, hk i hi⟩
set_option maxRecDepth 100000 in
set_option maxHeartbeats 4000000 in
theorem equal_nodes (va vb : Value) (l : List Nd) (w : World) (h1 : NSl w va l) (h2 : NSl w vb l) (hl : l.length ≤ 9223372036854770000) :
    Calls Tryd.prog 10 #[va, vb] w fun e w' => e = .returned (.bool true) ∧ ∃ n, w' = w.drewN n := by
  have H1 := h1
  have H2 := h2
  obtain ⟨⟨a1, p1, rfl, hc1⟩, _⟩ := H1
  obtain ⟨⟨a2, p2, rfl, hc2⟩, _⟩ := H2
  have K1 := Lib.hid h1.cells
  have K2 := Lib.hid h2.cells
  clear h1 h2 hc1 hc2
  go_enter Tryd.func10, Tryd.ntmps10
  go_wp2_with fail
  go_loopw [5] (fun i wr => ∃ k : Nat, i = .int .i64 k ∧ k ≤ l.length ∧ ∃ n, wr = w.drewN n) (fun i _ => l.length - (intOf i).toNat)
  case atStart => exact ⟨0, rfl, Nat.zero_le _, 0, rfl⟩
  case round =>
    obtain ⟨k, rfl, hk, n, rfl⟩ := hrel
    by_cases hlt : k < l.length
    · obtain ⟨b1, o1, e1, c0, c1, c2, c3⟩ := K1.out k hlt
      obtain ⟨b2, o2, e2, d0, d1, d2, d3⟩ := K2.out k hlt
      subst e1 e2
      generalize l[k] = t at *
      obtain ⟨tk, tn, ts, tp⟩ := t
      simp only at c0 c1 c2 c3 d0 d1 d2 d3
      have hN := nd_same tk tn tp ts
      go_wp2_with fail
      go_quiet (fail)
      go_wp2_with fail
      go_roundw
      case rel => exact ⟨k + 1, by go_num, by omega, _, rfl⟩
      case measure => simp [intOf]; omega
    · go_wp2_with fail
      go_ret
      exact ⟨rfl, n, rfl⟩
def aw1 : List UInt8 := [78, 97, 109, 101, 32, 40, 95, 65, 68, 82, 44, 32, 49, 54, 41]
def aw2 : List UInt8 := [68, 101, 118, 105, 99, 101, 32, 40, 69, 67, 48, 41, 32, 123]
def awP : List Nd := [⟨13, 0, [], 2⟩, ⟨3, 0, [95, 65, 68, 82], 0⟩, ⟨1, 16, [], 0⟩]
theorem aw1_is : parseL aw1 = (awP, 0, 0) := by decide +kernel
theorem aw2_is : parseL aw2 = ([], 14, 2) := by decide +kernel
theorem awP_is : validL awP = true := by decide +kernel
def rep (x : List UInt8) : Nat → List UInt8
  | 0 => []
  | k + 1 => rep x k ++ x
def preD (d : Bool) : List UInt8 := if d = true then [68, 101, 118, 105, 99, 101, 32, 40, 65, 41, 32, 123] else [83, 99, 111, 112, 101, 32, 40, 94, 65, 41, 32, 123]
def nestT (k : Nat) (d : Bool) : List UInt8 := rep (preD d) k ++ [69, 118, 101, 110, 116, 32, 40, 69, 41] ++ rep [125] k
def nestB (k : Nat) (d : Bool) : Bool := let x := parseL (nestT k d)
  if 32 < 2 * k + 2 then x == ([], 0, 11) else x.2.2 == 0 && validL x.1 && x.1.length == 3 * k + 2
end Go.Proofs.YtnicnfchkdmieaaDoor
