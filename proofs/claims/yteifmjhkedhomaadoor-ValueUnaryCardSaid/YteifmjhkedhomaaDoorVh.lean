/- arithmetic, whole; compare. -/
import Derived.Test.YteifmjhkedhomaaDoorVg
namespace Go.Proofs.YteifmjhkedhomaaDoor
open Go.RowKit
set_option linter.unusedVariables false

/-- An integer value, or the error's. -/
def valE (r : Int × Int) : Value := if r.2 = 0 then valV 1 r.1 [] 0 else valV 0 0 [] 0
def topB (b : Bool) : Int := if b = true then 18446744073709551615 else 0
/-- What arithmetic returns: the number, the error. -/
def arV (op x y : Int) : Int × Int :=
  if op = 60 then (IntKind.u64.wrap (x + y), 0) else if op = 61 then (IntKind.u64.wrap (x - y), 0) else if op = 62 then (IntKind.u64.wrap (x * y), 0)
  else if op = 63 then (if y = 0 then (0, 12) else (x / y, 0)) else if op = 64 then (if y = 0 then (0, 12) else (x % y, 0))
  else if op = 65 then (bits .and .u64 x y, 0) else if op = 66 then (bits .or .u64 x y, 0) else if op = 67 then (bits .xor .u64 x y, 0)
  else if op = 68 then (if y < 64 then (IntKind.u64.wrap (x * 2 ^ y.toNat), 0) else (0, 0)) else if op = 69 then (if y < 64 then (x / 2 ^ y.toNat, 0) else (0, 0))
  else if op = 70 then (topB (x != 0 && y != 0), 0) else (topB (x != 0 || y != 0), 0)
def ArPost (w : World) (r : Int × Int) (e : Ending) (w' : World) : Prop := e = .returned (.tuple #[valE r, .int .i64 r.2]) ∧ Below w.heap.size w w'
theorem ar_any (op x y : Int) (w : World) (ho : 60 ≤ op) (ho2 : op ≤ 71) (hx : 0 ≤ x) (hx2 : x ≤ 18446744073709551615) (hy : 0 ≤ y) (hy2 : y ≤ 18446744073709551615) : Calls Tryd.prog 41 #[.int .i64 op, .int .u64 x, .int .u64 y] w (ArPost w (arV op x y)) := by
  have h : op = 60 ∨ op = 61 ∨ op = 62 ∨ op = 65 ∨ op = 66 ∨ op = 67 ∨ op = 63 ∨ op = 64 ∨ op = 68 ∨ op = 69 ∨ op = 70 ∨ op = 71 := by omega
  rcases h with rfl | rfl | rfl | rfl | rfl | rfl | rfl | rfl | rfl | rfl | rfl | rfl
  · exact ar_60 x y w hx hx2 hy hy2
  · exact ar_61 x y w hx hx2 hy hy2
  · exact ar_62 x y w hx hx2 hy hy2
  · exact ar_65 x y w hx hx2 hy hy2
  · exact ar_66 x y w hx hx2 hy hy2
  · exact ar_67 x y w hx hx2 hy hy2
  · by_cases h0 : y = 0
    · subst h0
      exact ar_div0 63 x w (by omega)
    · have e : arV 63 x y = (x / y, 0) := by simp [arV, h0]
      rw [e]
      exact ar_63 x y w hx hx2 hy hy2 (by omega)
  · by_cases h0 : y = 0
    · subst h0
      exact ar_div0 64 x w (by omega)
    · have e : arV 64 x y = (x % y, 0) := by simp [arV, h0]
      rw [e]
      exact ar_64 x y w hx hx2 hy hy2 (by omega)
  · by_cases h0 : y < 64
    · have e : arV 68 x y = (IntKind.u64.wrap (x * 2 ^ y.toNat), 0) := by simp [arV, h0]
      rw [e]
      exact ar_68 x y w hx hx2 hy hy2 h0
    · have e : arV 68 x y = (0, 0) := by simp [arV, h0]
      rw [e]
      exact (ar_68f x y w (by omega))
  · by_cases h0 : y < 64
    · have e : arV 69 x y = (x / 2 ^ y.toNat, 0) := by simp [arV, h0]
      rw [e]
      exact ar_69 x y w hx hx2 hy hy2 h0
    · have e : arV 69 x y = (0, 0) := by simp [arV, h0]
      rw [e]
      exact (ar_69f x y w (by omega) hx hx2)
  · have e : arV 70 x y = (topB (x != 0 && y != 0), 0) := by simp [arV]
    rw [e]
    cases hxb : (x != 0)
    · exact ar_70f1 x y w hxb
    · cases hyb : (y != 0)
      · exact ar_70f2 x y w hxb hyb
      · exact ar_70tt x y w hxb hyb
  · have e : arV 71 x y = (topB (x != 0 || y != 0), 0) := by simp [arV]
    rw [e]
    cases hxb : (x != 0)
    · cases hyb : (y != 0)
      · exact ar_71ff x y w hxb hyb
      · exact ar_71t2 x y w hxb hyb
    · exact ar_71t1 x y w hxb
end Go.Proofs.YteifmjhkedhomaaDoor
