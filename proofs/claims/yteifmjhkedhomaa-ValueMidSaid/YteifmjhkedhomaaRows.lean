/-
  No cell of these rows narrows 'for every input' (looked for: loops, veiled, ifaces, maps, wideKeys, modest, calm, conditions, laid).
  DERIVED. THE GIVEN ROWS OF THIS SEAT. 3 by the template 'for every input the law returns true; each argument reads behind the call as it read before'; 0 by the template 'total and deterministic' (their statements: YteifmjhkedhomaaTotals.lean).
  GIVEN WITH THE SEED: the statements are not yours to turn. If you find one false, say at which input.
  Laid BY PROGRAM, IN A SANDBOX (cutbox-rows.mjs): the forced cells as the released guide's own fill.sh prints them over the translation 41b033a8fe1f7e38… (all of the seat's roots in one cut). By AI agents, Wed Nov 11 2026. No macro, syntax, notation, axiom, sorry.
-/
import Derived.Test.YteifmjhkedhomaaChecked
import GoSem.Claim
import GoSem.ClaimJoined
import GoSem.ClaimMapViews
import Derived.JoinedTies
import Derived.KernelRfl
namespace Go.Proofs.Yteifmjhkedhomaa
/- THE CELL 'sum', in the pinned program and in every row, IS THE sha256 OF THE DUMP (.gsa) THAT YteifmjhkedhomaaProg.lean LOADS. Nothing in Lean hashes anything: it is a label: what it is worth is what the hold of that sum in a sandbox is worth. -/
noncomputable def Try.pinned : Pinned := { name := "yteifmjhkedhomaa", sum := "41b033a8fe1f7e388ce14b592d96fe04f3638052f0118804941e0877a061d85d", checked := Try.checked }
namespace Rows
def none {H : Type} : Left H := { results := [], args := [] }

/-- 'platformfwlaw08.ValueBinary': WHATEVER THE INPUT: true; the input reads as it did. -/
def valueBinarySpec : ChangeSpec := { name := "valueBinary", fn := fun _ => fun
  | [d1, d2, d3] => { results := [.lit (.bool true)], args := [d1, d2, d3] }
  | _ => none }
def valueBinaryRow : OpenClaim := { program := "yteifmjhkedhomaa", sum := "41b033a8fe1f7e388ce14b592d96fe04f3638052f0118804941e0877a061d85d", func := "platformfw/platformfwlaw08.ValueBinary", spec := "valueBinary", inPlace := ["internal/abi.NoEscape"], unfollowed := true, recurses := true, apart := false }
def ValueBinarySaid : Prop := valueBinaryRow.holds Try.pinned (OpenSpec.ofChange valueBinarySpec)

/-- ITS FALSE NEIGHBOUR: 'it returns false'. Refute it at one input. -/
def valueBinaryWrong : ChangeSpec := { name := "valueBinary", fn := fun _ => fun
  | [d1, d2, d3] => { results := [.lit (.bool false)], args := [d1, d2, d3] }
  | _ => none }
def ValueBinaryWrongFalsely : Prop := valueBinaryRow.holds Try.pinned (OpenSpec.ofChange valueBinaryWrong)

/-- 'platformfwlaw08.ValueComparison': WHATEVER THE INPUT: true; the input reads as it did. -/
def valueComparisonSpec : ChangeSpec := { name := "valueComparison", fn := fun _ => fun
  | [d1, d2, d3] => { results := [.lit (.bool true)], args := [d1, d2, d3] }
  | _ => none }
def valueComparisonRow : OpenClaim := { program := "yteifmjhkedhomaa", sum := "41b033a8fe1f7e388ce14b592d96fe04f3638052f0118804941e0877a061d85d", func := "platformfw/platformfwlaw08.ValueComparison", spec := "valueComparison", inPlace := ["internal/abi.NoEscape"], unfollowed := true, recurses := true, apart := false }
def ValueComparisonSaid : Prop := valueComparisonRow.holds Try.pinned (OpenSpec.ofChange valueComparisonSpec)

/-- ITS FALSE NEIGHBOUR: 'it returns false'. Refute it at one input. -/
def valueComparisonWrong : ChangeSpec := { name := "valueComparison", fn := fun _ => fun
  | [d1, d2, d3] => { results := [.lit (.bool false)], args := [d1, d2, d3] }
  | _ => none }
def ValueComparisonWrongFalsely : Prop := valueComparisonRow.holds Try.pinned (OpenSpec.ofChange valueComparisonWrong)

/-- 'platformfwlaw08.ValueMid': WHATEVER THE INPUT: true; the input reads as it did. -/
def valueMidSpec : ChangeSpec := { name := "valueMid", fn := fun _ => fun
  | [d1, d2, d3, d4, d5] => { results := [.lit (.bool true)], args := [d1, d2, d3, d4, d5] }
  | _ => none }
def valueMidRow : OpenClaim := { program := "yteifmjhkedhomaa", sum := "41b033a8fe1f7e388ce14b592d96fe04f3638052f0118804941e0877a061d85d", func := "platformfw/platformfwlaw08.ValueMid", spec := "valueMid", inPlace := ["internal/abi.NoEscape"], unfollowed := true, recurses := true, apart := false }
def ValueMidSaid : Prop := valueMidRow.holds Try.pinned (OpenSpec.ofChange valueMidSpec)

/-- ITS FALSE NEIGHBOUR: 'it returns false'. Refute it at one input. -/
def valueMidWrong : ChangeSpec := { name := "valueMid", fn := fun _ => fun
  | [d1, d2, d3, d4, d5] => { results := [.lit (.bool false)], args := [d1, d2, d3, d4, d5] }
  | _ => none }
def ValueMidWrongFalsely : Prop := valueMidRow.holds Try.pinned (OpenSpec.ofChange valueMidWrong)

/- THE SECOND FORM. 'bulk': how many values and letters a reading holds, each counted each time it is reached (what is shared counts as often as it is met; a slice's spare places count too). A statement '..UptoSaid' is the law's where the arguments, and the package variables that the reading takes, are together of bulk at most 1048576: NARROWER than '..Said'. Prove '..Said' where nothing that the law and all that it calls make is longer than what came in: it says more and counts as full. Else prove '..UptoSaid'. A law counts once. -/
mutual
def uptoBulk {H : Type} : DataW H → Nat
  | .lit (.string bytes) => bytes.length + 1
  | .lit _ => 1
  | .nil => 1
  | .ptr d => uptoBulk d + 1
  | .slice elems spare => uptoBulkAll elems + uptoBulkAll spare + 1
  | .agg parts => uptoBulkAll parts + 1
  | .iface _ d => uptoBulk d + 1
  | .map entries => uptoBulkEntries entries + 1
  | .held _ => 1
def uptoBulkAll {H : Type} : List (DataW H) → Nat
  | [] => 0
  | d :: r => uptoBulk d + uptoBulkAll r
def uptoBulkEntries {H : Type} : List (Lit × DataW H) → Nat
  | [] => 0
  | x :: r => uptoBulkEntry x + uptoBulkEntries r
def uptoBulkEntry {H : Type} : Lit × DataW H → Nat
  | (.string bytes, d) => bytes.length + uptoBulk d + 1
  | (_, d) => uptoBulk d + 1
 end
def uptoSmall : (H : Type) → List (DataW H) → Bool := fun _ ds => decide (uptoBulkAll ds ≤ 1048576)
def OpenSpec.upto (s : _root_.Go.ChangeSpec) : _root_.Go.OpenSpec := { _root_.Go.OpenSpec.ofChange s with cond := some uptoSmall }

/-- 'platformfwlaw08.ValueBinary', WHERE WHAT IT READS IS OF BULK AT MOST 1048576: true; the input reads as it did. -/
def valueBinaryUptoRow : OpenClaim := { program := "yteifmjhkedhomaa", sum := "41b033a8fe1f7e388ce14b592d96fe04f3638052f0118804941e0877a061d85d", func := "platformfw/platformfwlaw08.ValueBinary", spec := "valueBinary", inPlace := ["internal/abi.NoEscape"], unfollowed := true, recurses := true, apart := false, narrowed := true }
def ValueBinaryUptoSaid : Prop := valueBinaryUptoRow.holds Try.pinned (OpenSpec.upto valueBinarySpec)

/-- 'platformfwlaw08.ValueComparison', WHERE WHAT IT READS IS OF BULK AT MOST 1048576: true; the input reads as it did. -/
def valueComparisonUptoRow : OpenClaim := { program := "yteifmjhkedhomaa", sum := "41b033a8fe1f7e388ce14b592d96fe04f3638052f0118804941e0877a061d85d", func := "platformfw/platformfwlaw08.ValueComparison", spec := "valueComparison", inPlace := ["internal/abi.NoEscape"], unfollowed := true, recurses := true, apart := false, narrowed := true }
def ValueComparisonUptoSaid : Prop := valueComparisonUptoRow.holds Try.pinned (OpenSpec.upto valueComparisonSpec)

/-- 'platformfwlaw08.ValueMid', WHERE WHAT IT READS IS OF BULK AT MOST 1048576: true; the input reads as it did. -/
def valueMidUptoRow : OpenClaim := { program := "yteifmjhkedhomaa", sum := "41b033a8fe1f7e388ce14b592d96fe04f3638052f0118804941e0877a061d85d", func := "platformfw/platformfwlaw08.ValueMid", spec := "valueMid", inPlace := ["internal/abi.NoEscape"], unfollowed := true, recurses := true, apart := false, narrowed := true }
def ValueMidUptoSaid : Prop := valueMidUptoRow.holds Try.pinned (OpenSpec.upto valueMidSpec)

end Rows
end Go.Proofs.Yteifmjhkedhomaa
