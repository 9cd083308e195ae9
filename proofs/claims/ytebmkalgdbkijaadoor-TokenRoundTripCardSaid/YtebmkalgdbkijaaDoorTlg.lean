/- FormatTokens of the reference at one token: the walk. -/
import Derived.Test.YtebmkalgdbkijaaDoorTld
import Derived.Test.YtebmkalgdbkijaaDoorTlf
namespace Go.Proofs.YtebmkalgdbkijaaDoor
open Go.RowKit
set_option linter.unusedVariables false
set_option linter.unusedSimpArgs false
attribute [local go_sem] ByteArray.mk_append_mk bs_get bs_cut bs_end

def punC (k : Int) : List UInt8 := if k = 5 then [40] else if k = 6 then [41] else if k = 7 then [123] else if k = 8 then [125] else [44]
/-- The text of a valid token. -/
def fmtT (t : TokI) : List UInt8 := if t.kind = 1 ∨ t.kind = 2 then t.str else if t.kind = 3 then fmtI t.num.toNat else if t.kind = 4 then quoL t.str else punC t.kind
theorem quoK_len (v : List UInt8) : ∀ k : Nat, k ≤ v.length → (quoK v k).length ≤ 19 * k + 1 := by
  intro k
  induction k with
  | zero => intro _; simp [quoK]
  | succ k ih =>
    intro h
    rw [quoK_succ (by omega), List.length_append]
    have := ih (by omega)
    have := quoC_len v[k]
    omega
theorem quoL_len {v : List UInt8} (h : v.length ≤ 255) : (quoL v).length ≤ 4847 := by
  unfold quoL
  rw [List.length_append]
  have := quoK_len v v.length (Nat.le_refl _)
  simp; omega
theorem TSl.one {w : World} {v : Value} {t : TokI} (h : TSl w v [t]) : ∃ b off cap, v = .slice (some ⟨b, off, none⟩) 1 cap ∧ ∀ w', Below w.heap.size w w' → TAt w' b off t := by
  obtain ⟨a, cap, hv, hc⟩ := h
  obtain ⟨b, off, rfl, hk⟩ := hc (by simp)
  refine ⟨b, off, cap, hv, fun w' hb => ?_⟩
  have := (hk 0 (by simp)).below hb
  simpa using this
end Go.Proofs.YtebmkalgdbkijaaDoor
