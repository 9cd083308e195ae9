/-
  No cell of these rows narrows 'for every input' (looked for: loops, veiled, ifaces, maps, wideKeys, modest, calm, conditions, laid).
  DERIVED. THE GIVEN ROWS OF THIS SEAT. 3 by the template 'for every input the law returns true; each argument reads behind the call as it read before'; 0 by the template 'total and deterministic' (their statements: YtebmkalgdbkijaaTotals.lean).
  GIVEN WITH THE SEED: the statements are not yours to turn. If you find one false, say at which input.
  Laid BY PROGRAM, IN A SANDBOX (cutbox-rows.mjs): the forced cells as the released guide's own fill.sh prints them over the translation a3c0ede576b7ff22… (all of the seat's roots in one cut). By AI agents, Wed Nov 11 2026. No macro, syntax, notation, axiom, sorry.
-/
import Derived.Test.YtebmkalgdbkijaaChecked
import GoSem.Claim
import GoSem.ClaimJoined
import GoSem.ClaimMapViews
import Derived.JoinedTies
import Derived.KernelRfl
namespace Go.Proofs.Ytebmkalgdbkijaa
/- THE CELL 'sum', in the pinned program and in every row, IS THE sha256 OF THE DUMP (.gsa) THAT YtebmkalgdbkijaaProg.lean LOADS. Nothing in Lean hashes anything: it is a label: what it is worth is what the hold of that sum in a sandbox is worth. -/
noncomputable def Try.pinned : Pinned := { name := "ytebmkalgdbkijaa", sum := "a3c0ede576b7ff22c876398ffb0e113ca5b008795b112ab9d217ddf83ef8f283", checked := Try.checked }
namespace Rows
def none {H : Type} : Left H := { results := [], args := [] }

/-- 'platformfwlaw01.TokenScansExactly': WHATEVER THE INPUT: true; the input reads as it did. -/
def tokenScansExactlySpec : ChangeSpec := { name := "tokenScansExactly", fn := fun _ => fun
  | [d1, d2] => { results := [.lit (.bool true)], args := [d1, d2] }
  | _ => none }
def tokenScansExactlyRow : OpenClaim := { program := "ytebmkalgdbkijaa", sum := "a3c0ede576b7ff22c876398ffb0e113ca5b008795b112ab9d217ddf83ef8f283", func := "platformfw/platformfwlaw01.TokenScansExactly", spec := "tokenScansExactly", inPlace := ["internal/bytealg.IndexByteString", "internal/bytealg.IndexString"], named := ["internal/bytealg.MaxLen"], apart := false }
def TokenScansExactlySaid : Prop := tokenScansExactlyRow.holds Try.pinned (OpenSpec.ofChange tokenScansExactlySpec)

/-- ITS FALSE NEIGHBOUR: 'it returns false'. Refute it at one input. -/
def tokenScansExactlyWrong : ChangeSpec := { name := "tokenScansExactly", fn := fun _ => fun
  | [d1, d2] => { results := [.lit (.bool false)], args := [d1, d2] }
  | _ => none }
def TokenScansExactlyWrongFalsely : Prop := tokenScansExactlyRow.holds Try.pinned (OpenSpec.ofChange tokenScansExactlyWrong)

/-- 'platformfwlaw01.TokenSeparators': WHATEVER THE INPUT: true; the input reads as it did. -/
def tokenSeparatorsSpec : ChangeSpec := { name := "tokenSeparators", fn := fun _ => fun
  | [d1, d2] => { results := [.lit (.bool true)], args := [d1, d2] }
  | _ => none }
def tokenSeparatorsRow : OpenClaim := { program := "ytebmkalgdbkijaa", sum := "a3c0ede576b7ff22c876398ffb0e113ca5b008795b112ab9d217ddf83ef8f283", func := "platformfw/platformfwlaw01.TokenSeparators", spec := "tokenSeparators", inPlace := ["internal/bytealg.IndexByteString", "internal/bytealg.IndexString"], named := ["internal/bytealg.MaxLen"], apart := false }
def TokenSeparatorsSaid : Prop := tokenSeparatorsRow.holds Try.pinned (OpenSpec.ofChange tokenSeparatorsSpec)

/-- ITS FALSE NEIGHBOUR: 'it returns false'. Refute it at one input. -/
def tokenSeparatorsWrong : ChangeSpec := { name := "tokenSeparators", fn := fun _ => fun
  | [d1, d2] => { results := [.lit (.bool false)], args := [d1, d2] }
  | _ => none }
def TokenSeparatorsWrongFalsely : Prop := tokenSeparatorsRow.holds Try.pinned (OpenSpec.ofChange tokenSeparatorsWrong)

/-- 'platformfwlaw01.TokenErrorOffset': WHATEVER THE INPUT: true; the input reads as it did. -/
def tokenErrorOffsetSpec : ChangeSpec := { name := "tokenErrorOffset", fn := fun _ => fun
  | [d1, d2] => { results := [.lit (.bool true)], args := [d1, d2] }
  | _ => none }
def tokenErrorOffsetRow : OpenClaim := { program := "ytebmkalgdbkijaa", sum := "a3c0ede576b7ff22c876398ffb0e113ca5b008795b112ab9d217ddf83ef8f283", func := "platformfw/platformfwlaw01.TokenErrorOffset", spec := "tokenErrorOffset", inPlace := ["internal/bytealg.IndexByteString", "internal/bytealg.IndexString"], named := ["internal/bytealg.MaxLen"], apart := false }
def TokenErrorOffsetSaid : Prop := tokenErrorOffsetRow.holds Try.pinned (OpenSpec.ofChange tokenErrorOffsetSpec)

/-- ITS FALSE NEIGHBOUR: 'it returns false'. Refute it at one input. -/
def tokenErrorOffsetWrong : ChangeSpec := { name := "tokenErrorOffset", fn := fun _ => fun
  | [d1, d2] => { results := [.lit (.bool false)], args := [d1, d2] }
  | _ => none }
def TokenErrorOffsetWrongFalsely : Prop := tokenErrorOffsetRow.holds Try.pinned (OpenSpec.ofChange tokenErrorOffsetWrong)

/- THE SECOND FORM. 'bulk': how many values and letters a reading holds, each counted each time it is reached (what is shared counts as often as it is met; a slice's spare places count too). A statement '..UptoSaid' is the law's where the arguments, and the package variables that the reading takes, are together of bulk at most 1048576: NARROWER than '..Said'. Prove '..Said' where nothing that the law and all that it calls make is longer than what came in: it says more and counts as full. Else prove '..UptoSaid'. A law counts once. -/
mutual
def uptoBulk {H : Type} : DataW H → Nat
  | .lit (.string bytes) => bytes.length + 1
  | .lit _ => 1
  | .nil => 1
  | .ptr d => uptoBulk d + 1
  | .slice elems spare => uptoBulkAll elems + uptoBulkAll spare + 1
  | .agg parts => uptoBulkAll parts + 1
  | .iface _ d => uptoBulk d + 1
  | .map entries => uptoBulkEntries entries + 1
  | .held _ => 1
def uptoBulkAll {H : Type} : List (DataW H) → Nat
  | [] => 0
  | d :: r => uptoBulk d + uptoBulkAll r
def uptoBulkEntries {H : Type} : List (Lit × DataW H) → Nat
  | [] => 0
  | x :: r => uptoBulkEntry x + uptoBulkEntries r
def uptoBulkEntry {H : Type} : Lit × DataW H → Nat
  | (.string bytes, d) => bytes.length + uptoBulk d + 1
  | (_, d) => uptoBulk d + 1
 end
def uptoSmall : (H : Type) → List (DataW H) → Bool := fun _ ds => decide (uptoBulkAll ds ≤ 1048576)
def OpenSpec.upto (s : _root_.Go.ChangeSpec) : _root_.Go.OpenSpec := { _root_.Go.OpenSpec.ofChange s with cond := some uptoSmall }

/-- 'platformfwlaw01.TokenScansExactly', WHERE WHAT IT READS IS OF BULK AT MOST 1048576: true; the input reads as it did. -/
def tokenScansExactlyUptoRow : OpenClaim := { program := "ytebmkalgdbkijaa", sum := "a3c0ede576b7ff22c876398ffb0e113ca5b008795b112ab9d217ddf83ef8f283", func := "platformfw/platformfwlaw01.TokenScansExactly", spec := "tokenScansExactly", inPlace := ["internal/bytealg.IndexByteString", "internal/bytealg.IndexString"], named := ["internal/bytealg.MaxLen"], apart := false, narrowed := true }
def TokenScansExactlyUptoSaid : Prop := tokenScansExactlyUptoRow.holds Try.pinned (OpenSpec.upto tokenScansExactlySpec)

/-- 'platformfwlaw01.TokenSeparators', WHERE WHAT IT READS IS OF BULK AT MOST 1048576: true; the input reads as it did. -/
def tokenSeparatorsUptoRow : OpenClaim := { program := "ytebmkalgdbkijaa", sum := "a3c0ede576b7ff22c876398ffb0e113ca5b008795b112ab9d217ddf83ef8f283", func := "platformfw/platformfwlaw01.TokenSeparators", spec := "tokenSeparators", inPlace := ["internal/bytealg.IndexByteString", "internal/bytealg.IndexString"], named := ["internal/bytealg.MaxLen"], apart := false, narrowed := true }
def TokenSeparatorsUptoSaid : Prop := tokenSeparatorsUptoRow.holds Try.pinned (OpenSpec.upto tokenSeparatorsSpec)

/-- 'platformfwlaw01.TokenErrorOffset', WHERE WHAT IT READS IS OF BULK AT MOST 1048576: true; the input reads as it did. -/
def tokenErrorOffsetUptoRow : OpenClaim := { program := "ytebmkalgdbkijaa", sum := "a3c0ede576b7ff22c876398ffb0e113ca5b008795b112ab9d217ddf83ef8f283", func := "platformfw/platformfwlaw01.TokenErrorOffset", spec := "tokenErrorOffset", inPlace := ["internal/bytealg.IndexByteString", "internal/bytealg.IndexString"], named := ["internal/bytealg.MaxLen"], apart := false, narrowed := true }
def TokenErrorOffsetUptoSaid : Prop := tokenErrorOffsetUptoRow.holds Try.pinned (OpenSpec.upto tokenErrorOffsetSpec)

end Rows
end Go.Proofs.Ytebmkalgdbkijaa
