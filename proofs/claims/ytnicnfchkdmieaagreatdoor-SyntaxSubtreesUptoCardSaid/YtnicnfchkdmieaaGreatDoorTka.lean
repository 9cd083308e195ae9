/- Tokens: what a source text holds, in plain lists. -/
import Derived.Test.YtnicnfchkdmieaaGreatDoorLex
namespace Go.Proofs.YtnicnfchkdmieaaGreatDoor
open Go.RowKit
set_option linter.unusedVariables false

/-- The word at the start. -/
def wordN (s : List UInt8) : Nat := (s.takeWhile idB).length
def caretN (s : List UInt8) : Nat := (s.takeWhile (· == 94)).length
def preN : List UInt8 → Nat
  | 92 :: _ => 1
  | s => caretN s
/-- The segments of a name: their length. -/
def segsN : Nat → List UInt8 → Option Nat
  | 0, _ => none
  | _ + 1, [] => none
  | f + 1, c :: r => if letterB c = false then none else if segB ((c :: r).take (wordN (c :: r))) = false then none else
      match (c :: r).drop (wordN (c :: r)) with
      | 46 :: t => (segsN f t).map (wordN (c :: r) + 1 + ·)
      | _ => some (wordN (c :: r))
/-- A name's length. -/
def nameN (s : List UInt8) : Option Nat :=
  match s.drop (preN s) with
  | [] => if 0 < preN s then some (preN s) else none
  | c :: r => if letterB c = true then (segsN (c :: r).length (c :: r)).map (preN s + ·) else if 0 < preN s then some (preN s) else none
/-- A hexadecimal digit. -/
def hexV (c : UInt8) : Option Nat :=
  if digitB c = true then some (c.toNat - 48) else if 97 ≤ c.toNat ∧ c.toNat ≤ 102 then some (c.toNat - 87) else if 65 ≤ c.toNat ∧ c.toNat ≤ 70 then some (c.toNat - 55) else none
def hexF : List UInt8 → Nat → Option Nat
  | [], v => some v
  | c :: r, v => match hexV c with
    | some d => hexF r (v * 16 + d)
    | none => none
def decF : List UInt8 → Nat → Option Nat
  | [], v => some v
  | c :: r, v => if digitB c = true then (if (18446744073709551615 - (c.toNat - 48)) / 10 < v then none else decF r (v * 10 + (c.toNat - 48))) else none
/-- An integer's value. -/
def intV : List UInt8 → Option Nat
  | 48 :: 120 :: d => if d = [] ∨ 16 < d.length then none else hexF d 0
  | [48] => some 0
  | 48 :: _ => none
  | s => decF s 0
/-- A string's value, and what follows. -/
def textF : List UInt8 → List UInt8 → Option (List UInt8 × List UInt8)
  | [], _ => none
  | 34 :: r, v => if 255 < v.length then none else some (v, r)
  | 92 :: 34 :: r, v => textF r (v ++ [34])
  | 92 :: 92 :: r, v => textF r (v ++ [92])
  | 92 :: 120 :: h :: l :: r, v => match hexV h, hexV l with
    | some a, some b => textF r (v ++ [UInt8.ofNat (a * 16 + b)])
    | _, _ => none
  | 92 :: _, _ => none
  | c :: r, v => if 32 ≤ c.toNat ∧ c.toNat ≤ 126 then textF r (v ++ [c]) else none
/-- What follows the end of a comment. -/
def closeL : List UInt8 → Option (List UInt8)
  | [] => none
  | 42 :: 47 :: r => some r
  | _ :: r => closeL r
def blankB (c : UInt8) : Bool := c == 32 || c == 9 || c == 13 || c == 10
theorem closeL_len : ∀ (s r : List UInt8), closeL s = some r → r.length + 2 ≤ s.length
  | [], r, h => by simp [closeL] at h
  | 42 :: 47 :: t, r, h => by
    rw [closeL] at h
    injection h with h
    subst h
    simp
  | c :: t, r, h => by
    unfold closeL at h
    split at h
    · cases h
    · next heq =>
      injection heq with h1 h2
      subst h1 h2
      injection h with h
      subst h
      simp
    · next heq =>
      injection heq with h1 h2
      subst h1 h2
      have := closeL_len _ r h
      simp; omega
/-- White space and comments. -/
def skipF : Nat → List UInt8 → List UInt8 × Bool
  | 0, s => (s, true)
  | f + 1, s => match s with
    | [] => ([], true)
    | 47 :: 47 :: r => skipF f ((47 :: 47 :: r).dropWhile (· != 10))
    | 47 :: 42 :: r => match closeL r with
      | some t => skipF f t
      | none => (47 :: 42 :: r, false)
    | c :: r => if blankB c = true then skipF f r else (c :: r, true)
/-- Fuel beyond the length changes nothing. -/
theorem dropLine_len (r : List UInt8) : ((47 :: 47 :: r : List UInt8).dropWhile (· != 10)).length ≤ r.length := by
  have h1 : (47 :: 47 :: r : List UInt8).dropWhile (· != 10) = r.dropWhile (· != 10) := by simp
  rw [h1]
  exact (List.dropWhile_sublist _).length_le
theorem skipF_fuel : ∀ (f g : Nat) (s : List UInt8), s.length < f → s.length < g → skipF f s = skipF g s
  | 0, _, _, h, _ => absurd h (by omega)
  | _ + 1, 0, _, _, h => absurd h (by omega)
  | f + 1, g + 1, s, h1, h2 => by
    unfold skipF
    split
    · rfl
    · next r =>
      have := dropLine_len r
      simp only [List.length_cons] at h1 h2
      exact skipF_fuel f g _ (by omega) (by omega)
    · next r =>
      simp only [List.length_cons] at h1 h2
      split
      · next t ht =>
        have := closeL_len r t ht
        exact skipF_fuel f g _ (by omega) (by omega)
      · rfl
    · next c r _ _ =>
      simp only [List.length_cons] at h1 h2
      split
      · exact skipF_fuel f g _ (by omega) (by omega)
      · rfl
def skipL (s : List UInt8) : List UInt8 × Bool := skipF (s.length + 1) s
theorem skipL_nil : skipL [] = ([], true) := rfl
theorem skipL_line (r : List UInt8) : skipL (47 :: 47 :: r) = skipL ((47 :: 47 :: r : List UInt8).dropWhile (· != 10)) := by
  have := dropLine_len r
  unfold skipL
  rw [skipF]
  exact skipF_fuel _ _ _ (by simp only [List.length_cons]; omega) (by omega)
theorem skipL_block {r t : List UInt8} (h : closeL r = some t) : skipL (47 :: 42 :: r) = skipL t := by
  have := closeL_len r t h
  unfold skipL
  rw [skipF]
  simp only [h]
  exact skipF_fuel _ _ _ (by simp only [List.length_cons]; omega) (by omega)
theorem skipL_open {r : List UInt8} (h : closeL r = none) : skipL (47 :: 42 :: r) = (47 :: 42 :: r, false) := by
  unfold skipL
  rw [skipF]
  simp only [h]
theorem skipL_blank {c : UInt8} {r : List UInt8} (h : blankB c = true) : skipL (c :: r) = skipL r := by
  have hc : c ≠ 47 := by rintro rfl; cases h
  unfold skipL
  rw [skipF]
  · rw [if_pos h]
    exact skipF_fuel _ _ _ (by simp) (by omega)
  · intro x e _; exact hc e
  · intro x e _; exact hc e
theorem skipL_stop {c : UInt8} {r : List UInt8} (h : blankB c = false) (h2 : c = 47 → ∀ t, r ≠ 47 :: t ∧ r ≠ 42 :: t) : skipL (c :: r) = (c :: r, true) := by
  unfold skipL
  rw [skipF]
  · rw [if_neg (by rw [h]; decide)]
  · intro x e1 e2; exact (h2 e1 x).1 e2
  · intro x e1 e2; exact (h2 e1 x).2 e2
/-- A token. -/
structure Tok where
  kind : Nat
  num : Nat
  str : List UInt8
  pos : Nat
deriving DecidableEq
def punctK (c : UInt8) : Nat := if c = 40 then 5 else if c = 41 then 6 else if c = 123 then 7 else if c = 125 then 8 else if c = 44 then 9 else 0
/-- The item at the start: kind, number, text, length. -/
def itemL : List UInt8 → Option (Nat × Nat × List UInt8 × Nat)
  | [] => none
  | c :: r =>
    if digitB c = true then (intV ((c :: r).take (wordN (c :: r)))).map fun v => (3, v, [], wordN (c :: r))
    else if letterB c = true then
      (if lowerB ((c :: r).take (wordN (c :: r))) = true then (if wordN (c :: r) ≤ 32 then some (2, 0, (c :: r).take (wordN (c :: r)), wordN (c :: r)) else none)
       else (nameN (c :: r)).map fun m => (1, 0, (c :: r).take m, m))
    else if c = 92 ∨ c = 94 then (nameN (c :: r)).map fun m => (1, 0, (c :: r).take m, m)
    else if c = 34 then (textF r []).map fun p => (4, 0, p.1, (c :: r).length - p.2.length)
    else if punctK c = 0 then none else some (punctK c, 0, [], 1)
/-- All items from p on. -/
def scanF (s : List UInt8) : Nat → Nat → List Tok → List Tok × Nat × Nat
  | 0, _, acc => (acc, 0, 0)
  | f + 1, p, acc =>
    if (skipL (s.drop p)).2 = false then ([], s.length - (skipL (s.drop p)).1.length, 2)
    else if (skipL (s.drop p)).1 = [] then (acc, 0, 0)
    else match itemL (skipL (s.drop p)).1 with
      | none => ([], s.length - (skipL (s.drop p)).1.length, 2)
      | some (k, v, t, n) => scanF s f (s.length - (skipL (s.drop p)).1.length + n) (acc ++ [⟨k, v, t, s.length - (skipL (s.drop p)).1.length⟩])
def scanL (s : List UInt8) : List Tok × Nat × Nat := if 65536 < s.length then ([], 0, 11) else scanF s (s.length + 1) 0 []
end Go.Proofs.YtnicnfchkdmieaaGreatDoor
