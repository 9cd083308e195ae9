/- Unary as a plain function. -/
import Derived.Test.YteifmjhkedhomaaDoorUa
import Derived.Test.YteifmjhkedhomaaDoorVk
namespace Go.Proofs.YteifmjhkedhomaaDoor
open Go.RowKit
set_option linter.unusedVariables false

def hexG (c : UInt8) : List UInt8 := [48, 120] ++ digL c.toNat 16 2
def decG (c : UInt8) : List UInt8 := digL c.toNat 10 1
def wrV (front : List UInt8) (base least : Nat) (k n : Int) (s : List UInt8) : List UInt8 × Int :=
  if k = 1 then limV (front ++ digL n.toNat base 1) else if k = 3 then limV (joinL (fun c => front ++ digL c.toNat base least) [44] s) else if k = 2 then limV s else ([], 10)
/-- The text's start as a number. -/
def expV (k n : Int) (s : List UInt8) : Int × Int := if k = 2 then parE (parV s) else intV k n s
def notE (r : Int × Int) : Value × Int := if r.2 = 0 then (valV 1 (bits .xor .u64 IntKind.u64.max r.1) [] 0, 0) else badV r.2
def lnotE (r : Int × Int) : Value × Int := if r.2 = 0 then (valV 1 (topB (decide (r.1 = 0))) [] 0, 0) else badV r.2
def unV (op k n : Int) (s : List UInt8) : Value × Int :=
  if validV k s = false then badV 1
  else if op = 77 then notE (intV k n s)
  else if op = 78 then lnotE (intV k n s)
  else if op = 79 then (if k = 2 ∨ k = 3 then (valV 1 s.length [] 0, 0) else badV 10)
  else if op = 80 then intE (expV k n s)
  else if op = 81 then textE 3 (bufV k n s)
  else if op = 82 then textE 2 (wrV [48, 120] 16 2 k n s)
  else if op = 83 then textE 2 (wrV [] 10 1 k n s)
  else badV 1
end Go.Proofs.YteifmjhkedhomaaDoor
