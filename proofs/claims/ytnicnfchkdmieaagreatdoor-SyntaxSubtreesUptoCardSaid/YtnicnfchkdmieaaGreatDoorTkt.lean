/- awake, agrees, pieces, TokenScansExactly: the walks. -/
import Derived.Test.YtnicnfchkdmieaaGreatDoorTks
namespace Go.Proofs.YtnicnfchkdmieaaGreatDoor
open Go.RowKit
set_option linter.unusedVariables false
set_option linter.unusedSimpArgs false
attribute [local go_sem] ByteArray.mk_append_mk bs_get bs_cut bs_end

theorem max_below {w w' : World} {m : Int} (hm : w.cell? ⟨3, 0, none⟩ = some (.int .i64 m)) (h : Below w.heap.size w w') : w'.cell? ⟨3, 0, none⟩ = some (.int .i64 m) :=
  (h.cell (p := ⟨3, 0, none⟩) (World.block_lt_of_cell? w _ hm)).trans hm
theorem scanG_len (s : List UInt8) : ∀ (f p : Nat) (acc : List Tok), acc.length ≤ p → p ≤ s.length → (scanF s f p acc).1.length ≤ s.length
  | 0, p, acc, h, hp => by rw [scanF]; exact Nat.le_trans h hp
  | f + 1, p, acc, h, hp => by
    obtain ⟨q, hq1, hq2, e1, e2⟩ := skip_place s p hp
    unfold scanF
    rw [e2, e1]
    split
    · simp
    · split
      · simp only []; omega
      · split
        · simp
        · next k v t n hi =>
          have hn : 1 ≤ n ∧ n ≤ (s.drop q).length := itemL_le hi
          rw [List.length_drop] at hn
          exact scanG_len s f (q + n) _ (by rw [List.length_append]; simp; omega) (by omega)
theorem scanL_len (s : List UInt8) : (scanL s).1.length ≤ 65536 := by
  unfold scanL
  split
  · simp
  · have := scanG_len s (s.length + 1) 0 [] (by simp) (by omega)
    omega
def awake1 : List UInt8 := [78, 97, 109, 101, 32, 40, 95, 65, 68, 82, 44, 32, 48, 120, 49, 48, 41, 32, 47, 47, 32, 120]
def awakeT : List Tok := [⟨2, 0, [78, 97, 109, 101], 0⟩, ⟨5, 0, [], 5⟩, ⟨1, 0, [95, 65, 68, 82], 6⟩, ⟨9, 0, [], 10⟩, ⟨3, 16, [], 12⟩, ⟨6, 0, [], 16⟩]
theorem awake1_is : scanL awake1 = (awakeT, 0, 0) := by decide +kernel
theorem awake2_is : scanL [65, 66, 67, 68, 69] = ([], 0, 2) := by decide +kernel
theorem tok_eql (a b d a' b' d' : Int) (s s' : List UInt8) (w : World) : (binOp .eql 37 (.agg #[.int .i64 a, .int .u64 b, .string ⟨s.toArray⟩, .int .i64 d]) (.agg #[.int .i64 a', .int .u64 b', .string ⟨s'.toArray⟩, .int .i64 d'])).run Tryz.prog w = .ok (.bool (a == a' && b == b' && s == s' && d == d')) w := by
  rw [run_eql_struct, tok_eqIn]; rfl
end Go.Proofs.YtnicnfchkdmieaaGreatDoor
