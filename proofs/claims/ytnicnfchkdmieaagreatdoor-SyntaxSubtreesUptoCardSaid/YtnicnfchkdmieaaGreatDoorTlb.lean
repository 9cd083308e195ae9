/- Tokens as values; some, bare, at: the walks. -/
import Derived.Test.YtnicnfchkdmieaaGreatDoorTkt
import Derived.Test.YtnicnfchkdmieaaGreatDoorTla
import Derived.Test.YtnicnfchkdmieaaGreatDoorMod
namespace Go.Proofs.YtnicnfchkdmieaaGreatDoor
open Go.RowKit
set_option linter.unusedVariables false
set_option linter.unusedSimpArgs false
attribute [local go_sem] ByteArray.mk_append_mk bs_get bs_cut bs_end

/-- A token, with whatever numbers. -/
structure TokI where
  kind : Int
  num : Int
  str : List UInt8
  pos : Int
deriving DecidableEq
def TokI.val (t : TokI) : Value := tokV t.kind t.num t.str t.pos
def Tok.toI (t : Tok) : TokI := ⟨t.kind, t.num, t.str, t.pos⟩
/-- A token's block. -/
abbrev tObj (a b : Int) (c : List UInt8) (d : Int) : Obj := .cells #[.int .i64 a, .int .u64 b, .string ⟨c.toArray⟩, .int .i64 d] 37 (0, 0)
/-- A token without what has no meaning. -/
def bareT (t : TokI) : TokI := if t.kind = 1 ∨ t.kind = 2 ∨ t.kind = 4 then ⟨t.kind, 0, t.str, 0⟩ else if t.kind = 3 then ⟨t.kind, t.num, [], 0⟩ else ⟨t.kind, 0, [], 0⟩
end Go.Proofs.YtnicnfchkdmieaaGreatDoor
