/- Equal of tokens: the walk. -/
import Derived.Test.YtebmkalgdbkijaaTkr
namespace Go.Proofs.Ytebmkalgdbkijaa
open Go.RowKit
set_option linter.unusedVariables false
set_option linter.unusedSimpArgs false
attribute [local go_sem] ByteArray.mk_append_mk bs_get bs_cut bs_end

theorem str_beq (s t : List UInt8) : ((ByteArray.mk s.toArray) == (ByteArray.mk t.toArray)) = (s == t) := by
  show ((⟨s⟩ : Array UInt8) == ⟨t⟩) = (s == t)
  simp
theorem tok_eqIn (a b d a' b' d' : Int) (s s' : List UInt8) (w : World) : (Op.equalIn 10000 33 (.agg #[.int .i64 a, .int .u64 b, .string ⟨s.toArray⟩, .int .i64 d]) (.agg #[.int .i64 a', .int .u64 b', .string ⟨s'.toArray⟩, .int .i64 d'])).run Try.prog w = .ok (a == a' && b == b' && s == s' && d == d') w := by
  have hS : Try.prog.underlying 33 = some (.struct (Try.prog.fieldsOf 33)) := by kernel_rfl
  have hp : Try.prog.stoodInHeld 33 = false := by kernel_rfl
  rw [show (10000 : Nat) = 9999 + 1 from rfl, run_equalIn_agg w 9999 33 _ _ hS hp]
  simp only [Program.fieldsOf, Try.underlying33]
  have u3 := Try.underlying3
  have u5 := Try.underlying31
  have u9 := Try.underlying9
  go_simp
  by_cases h1 : a = a' <;> by_cases h2 : b = b' <;> by_cases h3 : s = s' <;> by_cases h4 : d = d' <;> simp [h1, h2, h3, h4]
theorem tok_neq (a b d a' b' d' : Int) (s s' : List UInt8) (w : World) : (binOp .neq 33 (.agg #[.int .i64 a, .int .u64 b, .string ⟨s.toArray⟩, .int .i64 d]) (.agg #[.int .i64 a', .int .u64 b', .string ⟨s'.toArray⟩, .int .i64 d'])).run Try.prog w = .ok (.bool (!(a == a' && b == b' && s == s' && d == d'))) w := by
  rw [run_neq_struct, tok_eqIn]; rfl
theorem tok_same (a b d : Int) (s : List UInt8) (w : World) : (binOp .neq 33 (.agg #[.int .i64 a, .int .u64 b, .string ⟨s.toArray⟩, .int .i64 d]) (.agg #[.int .i64 a, .int .u64 b, .string ⟨s.toArray⟩, .int .i64 d])).run Try.prog w = .ok (.bool false) w := by
  rw [tok_neq]; simp
set_option maxRecDepth 100000 in
set_option maxHeartbeats 4000000 in
theorem equal_toks (va vb : Value) (l : List Tok) (B1 B2 : Nat) (w : World) (h1 : Toks w B1 va l) (h2 : Toks w B2 vb l) (hl : l.length ≤ 9223372036854770000) :
    Calls Try.prog 17 #[va, vb] w fun e w' => e = .returned (.bool true) ∧ ∃ n, w' = w.drewN n := by
  obtain ⟨a1, p1, rfl⟩ := h1.form
  obtain ⟨a2, p2, rfl⟩ := h2.form
  have K1 := Lib.hid h1.cells
  have K2 := Lib.hid h2.cells
  clear h1 h2
  go_enter Try.func17, Try.ntmps17
  go_wp2_with fail
  go_loopw [5] (fun i wr => ∃ k : Nat, i = .int .i64 k ∧ k ≤ l.length ∧ ∃ n, wr = w.drewN n) (fun i _ => l.length - (intOf i).toNat)
  case atStart => exact ⟨0, rfl, Nat.zero_le _, 0, rfl⟩
  case round =>
    obtain ⟨k, rfl, hk, n, rfl⟩ := hrel
    by_cases hlt : k < l.length
    · obtain ⟨b1, e1, _, c0, c1, c2, c3⟩ := K1.out k hlt
      obtain ⟨b2, e2, _, d0, d1, d2, d3⟩ := K2.out k hlt
      subst e1 e2
      generalize l[k] = t at *
      obtain ⟨tk, tn, ts, tp⟩ := t
      simp only at c0 c1 c2 c3 d0 d1 d2 d3
      have hN := tok_same tk tn tp ts
      go_wp2_with fail
      go_quiet (fail)
      go_wp2_with fail
      go_roundw
      case rel => exact ⟨k + 1, by go_num, by omega, _, rfl⟩
      case measure => simp [intOf]; omega
    · go_wp2_with fail
      go_ret
      exact ⟨rfl, n, rfl⟩
end Go.Proofs.Ytebmkalgdbkijaa
