/- Sa Sc Sb -/
import Derived.Test.YtnicnfchkdmieaaGreatDoorYak
import Derived.Test.YtnicnfchkdmieaaGreatDoorYam
import Derived.Test.YtnicnfchkdmieaaGreatDoorYag
set_option linter.unusedVariables false
set_option linter.unusedSimpArgs false
namespace Go.Proofs.YtnicnfchkdmieaaGreatDoor
section
open Go.RowKit
abbrev Nd := TokI
def declT : List (List UInt8 × List UInt8) := [([83, 99, 111, 112, 101], [110, 68]), ([68, 101, 118, 105, 99, 101], [115, 68]), ([80, 111, 119, 101, 114, 82, 101, 115, 111, 117, 114, 99, 101], [115, 105, 105, 68]), ([78, 97, 109, 101], [115, 100]), ([77, 101, 116, 104, 111, 100], [115, 105, 105, 105, 83]), ([79, 112, 101, 114, 97, 116, 105, 111, 110, 82, 101, 103, 105, 111, 110], [115, 105, 105, 105]), ([70, 105, 101, 108, 100], [110, 105, 105, 70]), ([73, 110, 100, 101, 120, 70, 105, 101, 108, 100], [110, 110, 105, 105, 70]), ([85, 110, 105, 116], [115, 105]), ([83, 107, 105, 112], [105]), ([77, 117, 116, 101, 120], [115, 105]), ([69, 118, 101, 110, 116], [115])]
def stmtT : List (List UInt8 × List UInt8) := [([83, 116, 111, 114, 101], [101, 116]), ([73, 102], [101, 83]), ([87, 104, 105, 108, 101], [101, 83]), ([82, 101, 116, 117, 114, 110], []), ([66, 114, 101, 97, 107], []), ([67, 111, 110, 116, 105, 110, 117, 101], []), ([82, 101, 108, 101, 97, 115, 101], [110]), ([83, 105, 103, 110, 97, 108], [110]), ([82, 101, 115, 101, 116], [110]), ([83, 108, 101, 101, 112], [101]), ([78, 111, 116, 105, 102, 121], [110, 101]), ([65, 99, 113, 117, 105, 114, 101], [110, 105]), ([87, 97, 105, 116], [110, 101])]
def exprT : List (List UInt8 × List UInt8) := [([65, 100, 100], [101, 101]), ([83, 117, 98, 116, 114, 97, 99, 116], [101, 101]), ([77, 117, 108, 116, 105, 112, 108, 121], [101, 101]), ([68, 105, 118, 105, 100, 101], [101, 101]), ([77, 111, 100], [101, 101]), ([65, 110, 100], [101, 101]), ([79, 114], [101, 101]), ([88, 111, 114], [101, 101]), ([83, 104, 105, 102, 116, 76, 101, 102, 116], [101, 101]), ([83, 104, 105, 102, 116, 82, 105, 103, 104, 116], [101, 101]), ([76, 65, 110, 100], [101, 101]), ([76, 79, 114], [101, 101]), ([76, 69, 113, 117, 97, 108], [101, 101]), ([76, 76, 101, 115, 115], [101, 101]), ([76, 71, 114, 101, 97, 116, 101, 114], [101, 101]), ([67, 111, 110, 99, 97, 116, 101, 110, 97, 116, 101], [101, 101]), ([73, 110, 100, 101, 120], [101, 101]), ([78, 111, 116], [101]), ([76, 78, 111, 116], [101]), ([83, 105, 122, 101, 79, 102], [101]), ([84, 111, 73, 110, 116, 101, 103, 101, 114], [101]), ([84, 111, 66, 117, 102, 102, 101, 114], [101]), ([84, 111, 72, 101, 120, 83, 116, 114, 105, 110, 103], [101]), ([84, 111, 68, 101, 99, 105, 109, 97, 108, 83, 116, 114, 105, 110, 103], [101]), ([68, 101, 114, 101, 102, 79, 102], [101]), ([82, 101, 102, 79, 102], [116]), ([67, 111, 110, 100, 82, 101, 102, 79, 102], [110]), ([79, 98, 106, 101, 99, 116, 84, 121, 112, 101], [116]), ([77, 105, 100], [101, 101, 101])]
def elemB (op : Int) : Bool := op == 18 || op == 19
def dataB (op : Int) : Bool := op == 1 || op == 2 || op == 50 || op == 51
def exprB (op : Int) : Bool := op == 3 || op == 5 || op == 6 || op == 7 || op == 41 || op == 42 || dataB op || (decide (60 ≤ op) && decide (op ≤ 88))
def accB (k : UInt8) (op : Int) : Bool :=
 if k = 110 ∨ k = 115 then op == 3 else if k = 105 ∨ k = 73 then op == 1 else if k = 101 then exprB op
 else if k = 116 then op == 3 || op == 6 || op == 7 || op == 76 || op == 84
 else if k = 100 then dataB op else if k = 80 then dataB op || op == 3
 else if k = 68 then decide (10 ≤ op) && decide (op ≤ 21) && !elemB op
 else if k = 70 then elemB op
 else if k = 83 then (decide (30 ≤ op) && decide (op ≤ 42)) || op == 5 else false
def blkB (k : UInt8) : Bool := decide (65 ≤ k.toNat) && decide (k.toNat ≤ 90)
def listB (k : UInt8) : Bool := k == 73 || k == 80
def formP (op : Int) : List UInt8 × List UInt8 :=
 if 10 ≤ op ∧ op ≤ 21 then declT.getD (op - 10).toNat ([], [])
 else if 30 ≤ op ∧ op ≤ 42 then stmtT.getD (op - 30).toNat ([], [])
 else if 60 ≤ op ∧ op ≤ 88 then exprT.getD (op - 60).toNat ([], [])
 else if op = 50 then ([66, 117, 102, 102, 101, 114], [105, 73])
 else if op = 51 then ([80, 97, 99, 107, 97, 103, 101], [105, 80]) else ([], [])
def findW (w : List UInt8) : List (List UInt8 × List UInt8) → Nat → Option Nat
 | [], _ => none
 | x :: r, i => if x.1 = w then some i else findW w r (i + 1)
def opW (w : List UInt8) : Int :=
 match findW w exprT 60 with
 | some i => i
 | none => match findW w stmtT 30 with
   | some i => i
   | none => match findW w declT 10 with
     | some i => i
     | none => if w = [66, 117, 102, 102, 101, 114] then 50 else if w = [80, 97, 99, 107, 97, 103, 101] then 51 else 0
def varW (w : List UInt8) : Option (Int × Nat) :=
 match w.getLast? with
 | none => none
 | some c => if w.dropLast = [76, 111, 99, 97, 108] ∧ 48 ≤ c.toNat ∧ c.toNat < 56 then some (6, c.toNat - 48)
   else if w.dropLast = [65, 114, 103] ∧ 48 ≤ c.toNat ∧ c.toNat < 55 then some (7, c.toNat - 48) else none
def singB (s : List UInt8) : Bool := !parRoot s && decide (parUp s = 0) && decide ((parSegs s).length = 1)
def nameB (k : UInt8) (s : List UInt8) : Bool := parOk s && (k != 115 || singB s)
inductive PR where
 | no (r : List TokI)
 | ok (r : List TokI) (ns : List Nd)
def atT (k : Int) : List TokI → Bool
 | [] => false
 | t :: _ => t.kind == k
def elseT : List TokI → Bool
 | [] => false
 | t :: _ => t.kind == 2 && t.str == [69, 108, 115, 101]
def posT (E : Int) : List TokI → Int
 | [] => E
 | t :: _ => t.pos
section
variable (sub : UInt8 → List TokI → PR)
def callL (text : List UInt8) : Nat → Nat → List Nd → List TokI → PR
 | 0, _, _, r => .no r
 | f + 1, m, ns, r => match sub 101 r with
   | .no x => .no x
   | .ok r1 n1 => if m + 1 = 7 ∨ atT 9 r1 = false then (if atT 6 r1 = true then .ok r1.tail (⟨5, 0, text, (m + 1 : Nat)⟩ :: (ns ++ n1)) else .no r1)
     else callL text f (m + 1) (ns ++ n1) r1.tail
def callP (text : List UInt8) (r : List TokI) : PR := if atT 6 r = true then .ok r.tail [⟨5, 0, text, 0⟩] else callL sub text 7 0 [] r
def nameP (k : UInt8) (text : List UInt8) (r : List TokI) : PR :=
 if nameB k text = false then .no r
 else if accB k 3 = false ∧ accB k 5 = false then .no r
 else if accB k 5 = true ∧ atT 5 r.tail = true then callP sub text r.tail.tail
 else if accB k 3 = false then .no r.tail
 else .ok r.tail [⟨3, 0, text, 0⟩]
def blockL (k : UInt8) : Nat → Nat → List Nd → List TokI → PR
 | 0, _, _, r => .no r
 | f + 1, m, ns, r => if atT 8 r = true then .ok r.tail (⟨4, 0, [], (m : Nat)⟩ :: ns)
   else if listB k = true ∧ 0 < m ∧ atT 9 r = false then .no r
   else match sub k (if listB k = true ∧ 0 < m then r.tail else r) with
    | .no x => .no x
    | .ok r1 n1 => blockL k f (m + 1) (ns ++ n1) r1
def blockP (k : UInt8) (r : List TokI) : PR := if atT 7 r = true then blockL sub k r.length 0 [] r.tail else .no r
def argsL : List UInt8 → Bool → List Nd → List TokI → PR
 | [], _, ns, r => if atT 6 r = true then .ok r.tail ns else .no r
 | k :: ks, first, ns, r => if blkB k = true then (if atT 6 r = true then .ok r.tail ns else .no r)
   else if first = false ∧ atT 9 r = false then .no r
   else match sub k (if first = false then r.tail else r) with
    | .no x => .no x
    | .ok r1 n1 => argsL ks false (ns ++ n1) r1
def blksL : List UInt8 → List Nd → List TokI → PR
 | [], ns, r => .ok r ns
 | k :: ks, ns, r => match blockP sub k r with
   | .no x => .no x
   | .ok r1 n1 => blksL ks (ns ++ n1) r1
def opsP (kinds : List UInt8) (r : List TokI) : PR :=
 if kinds = [] then .ok r [] else if atT 5 r = false then .no r
 else match argsL sub kinds true [] r.tail with
  | .no x => .no x
  | .ok r1 n1 => blksL sub (kinds.dropWhile fun k => !blkB k) n1 r1
def wordP (k : UInt8) (w : List UInt8) (r : List TokI) : PR :=
 match varW w with
 | some (op, n) => if accB k op = true then .ok r.tail [⟨op, n, [], 0⟩] else .no r
 | none =>
   if opW w = 0 ∨ accB k (opW w) = false then .no r
   else if opW w = 33 then (if atT 5 r.tail = true then (match opsP sub [101] r.tail with | .no x => .no x | .ok r1 n1 => .ok r1 (⟨33, 0, [], 1⟩ :: n1)) else .ok r.tail [⟨33, 0, [], 0⟩])
   else match opsP sub (formP (opW w)).2 r.tail with
    | .no x => .no x
    | .ok r1 n1 =>
      if opW w = 31 ∧ elseT r1 = true then (match blockP sub 83 r1.tail with | .no x => .no x | .ok r2 n2 => .ok r2 (⟨31, 0, [], 3⟩ :: (n1 ++ n2)))
      else .ok r1 (⟨opW w, 0, [], ((formP (opW w)).2.length : Nat)⟩ :: n1)
end
def subP : Nat → UInt8 → List TokI → PR
 | 0, _, r => .no r
 | f + 1, k, r => match r with
   | [] => .no []
   | t :: q => if t.kind = 1 then nameP (subP f) k t.str r else if t.kind = 2 then wordP (subP f) k t.str r
     else if t.kind = 3 ∧ accB k 1 = true then .ok q [⟨1, t.num, [], 0⟩]
     else if t.kind = 4 ∧ accB k 2 = true then .ok q [⟨2, 0, t.str, 0⟩] else .no r
def PGood (r : List TokI) : PR → Prop
 | .no x => ∃ k, x = r.drop k
 | .ok x ns => ∃ k, k ≤ r.length ∧ x = r.drop k ∧ ns.length ≤ k
def PGood1 (r : List TokI) : PR → Prop
 | .no x => ∃ k, x = r.drop k
 | .ok x ns => ∃ k, 1 ≤ k ∧ k ≤ r.length ∧ x = r.drop k ∧ ns.length ≤ k
theorem PGood1.good {r : List TokI} {x : PR} (h : PGood1 r x) : PGood r x := by
 cases x with
 | no y => exact h
 | ok y ns => obtain ⟨k, _, h2, h3, h4⟩ := h; exact ⟨k, h2, h3, h4⟩
theorem atT_len {k : Int} {r : List TokI} (h : atT k r = true) : 1 ≤ r.length := by
 cases r with
 | nil => cases h
 | cons t q => simp
theorem PGood.after {r : List TokI} {j n : Nat} {x : PR} (hj : j ≤ r.length) (h : PGood (r.drop j) x) : match x with | .no y => ∃ k, y = r.drop k | .ok y ns => ∃ k, j ≤ k ∧ k ≤ r.length ∧ y = r.drop k ∧ ns.length + j ≤ k := by
 cases x with
 | no y => obtain ⟨k, rfl⟩ := h; exact ⟨j + k, by rw [List.drop_drop]⟩
 | ok y ns =>
   obtain ⟨k, h1, rfl, h3⟩ := h
   rw [List.length_drop] at h1
   exact ⟨j + k, by omega, by omega, by rw [List.drop_drop], by omega⟩
section
variable {sub : UInt8 → List TokI → PR} (hs : ∀ k r, PGood1 r (sub k r))
include hs
theorem callL_good (text : List UInt8) (R : List TokI) : ∀ (f m j : Nat) (ns : List Nd), j ≤ R.length → 1 ≤ j → ns.length + 1 ≤ j →
  PGood1 R (callL sub text f m ns (R.drop j))
 | 0, m, j, ns, h, h1, h2 => ⟨j, rfl⟩
 | f + 1, m, j, ns, h, h1, h2 => by
   rw [callL]
   have hk := hs 101 (R.drop j)
   cases hx : sub 101 (R.drop j) with
   | no x => rw [hx] at hk; obtain ⟨k, rfl⟩ := hk; exact ⟨j + k, by rw [List.drop_drop]⟩
   | ok r1 n1 =>
     rw [hx] at hk
     obtain ⟨k, k1, k2, rfl, k4⟩ := hk
     rw [List.length_drop] at k2
     rw [List.drop_drop]
     simp only []
     split
     ·split
      ·rename_i h6
       have := atT_len h6
       rw [List.length_drop] at this
       rw [List.tail_drop]
       exact ⟨j + k + 1, by omega, by omega, rfl, by simp only [List.length_cons, List.length_append]; omega⟩
      ·exact ⟨_, rfl⟩
     ·rename_i h9
      have h9' : atT 9 (R.drop (j + k)) = true := by
       cases h : atT 9 (R.drop (j + k)) with
       | true => rfl
       | false => exact absurd (Or.inr h) h9
      have := atT_len h9'
      rw [List.length_drop] at this
      rw [List.tail_drop]
      exact callL_good text R f (m + 1) (j + k + 1) _ (by omega) (by omega) (by simp only [List.length_append]; omega)
theorem callP_good (text : List UInt8) (R : List TokI) (j : Nat) (h : j ≤ R.length) (h1 : 1 ≤ j) : PGood1 R (callP sub text (R.drop j)) := by
 unfold callP
 split
 ·rename_i h6
  have := atT_len h6
  rw [List.length_drop] at this
  rw [List.tail_drop]
  exact ⟨j + 1, by omega, by omega, rfl, by simp⟩
 ·exact callL_good hs text R 7 0 j [] h h1 (by simp; omega)
theorem nameP_good (k : UInt8) (text : List UInt8) (R : List TokI) (h : 1 ≤ R.length) : PGood1 R (nameP sub k text R) := by
 unfold nameP
 split
 ·exact ⟨0, rfl⟩
 split
 ·exact ⟨0, rfl⟩
 split
 ·rename_i h5
  have := atT_len h5.2
  rw [List.length_tail] at this
  rw [show R.tail.tail = R.drop 2 by cases R with | nil => rfl | cons a q => cases q <;> rfl]
  exact callP_good hs text R 2 (by omega) (by omega)
 split
 ·exact ⟨1, by rw [List.drop_one]⟩
 ·exact ⟨1, by omega, h, by rw [List.drop_one], by simp⟩
theorem blockL_good (k : UInt8) (R : List TokI) : ∀ (f m j : Nat) (ns : List Nd), j ≤ R.length → 1 ≤ j → ns.length + 1 ≤ j →
  PGood1 R (blockL sub k f m ns (R.drop j))
 | 0, m, j, ns, h, h1, h2 => ⟨j, rfl⟩
 | f + 1, m, j, ns, h, h1, h2 => by
   rw [blockL]
   split
   ·rename_i h8
    have := atT_len h8
    rw [List.length_drop] at this
    rw [List.tail_drop]
    exact ⟨j + 1, by omega, by omega, rfl, by simp only [List.length_cons]; omega⟩
   split
   ·exact ⟨j, rfl⟩
   rename_i h9
   obtain ⟨i, hi1, hi2, hi3⟩ : ∃ i, j ≤ i ∧ i ≤ R.length ∧ (if listB k = true ∧ 0 < m then (R.drop j).tail else R.drop j) = R.drop i := by
    by_cases hl : listB k = true ∧ 0 < m
    ·rw [if_pos hl]
     have h9' : atT 9 (R.drop j) = true := by
      cases h : atT 9 (R.drop j) with
      | true => rfl
      | false => exact absurd ⟨hl.1, hl.2, h⟩ h9
     have := atT_len h9'
     rw [List.length_drop] at this
     exact ⟨j + 1, by omega, by omega, by rw [List.tail_drop]⟩
    ·rw [if_neg hl]; exact ⟨j, by omega, h, rfl⟩
   rw [hi3]
   have hk := hs k (R.drop i)
   cases hx : sub k (R.drop i) with
   | no x => rw [hx] at hk; obtain ⟨k, rfl⟩ := hk; exact ⟨i + k, by rw [List.drop_drop]⟩
   | ok r1 n1 =>
     rw [hx] at hk
     obtain ⟨q, k1, k2, rfl, k4⟩ := hk
     rw [List.length_drop] at k2
     rw [List.drop_drop]
     exact blockL_good k R f (m + 1) (i + q) _ (by omega) (by omega) (by simp only [List.length_append]; omega)
theorem blockP_good (k : UInt8) (R : List TokI) : PGood1 R (blockP sub k R) := by
 unfold blockP
 split
 ·rename_i h7
  have := atT_len h7
  rw [← List.drop_one]
  exact blockL_good hs k R _ 0 1 [] this (by omega) (by simp)
 ·exact ⟨0, rfl⟩
theorem argsL_good (R : List TokI) : ∀ (ks : List UInt8) (first : Bool) (j : Nat) (ns : List Nd), j ≤ R.length → ns.length ≤ j →
  match argsL sub ks first ns (R.drop j) with | .no x => ∃ k, x = R.drop k | .ok x ns => ∃ k, j + 1 ≤ k ∧ k ≤ R.length ∧ x = R.drop k ∧ ns.length + 1 ≤ k
 | [], first, j, ns, h, h2 => by
   rw [argsL]
   by_cases h6 : atT 6 (R.drop j) = true
   ·rw [if_pos h6]
    have := atT_len h6
    rw [List.length_drop] at this
    exact ⟨j + 1, by omega, by omega, by rw [List.tail_drop], by omega⟩
   ·rw [if_neg h6]; exact ⟨j, rfl⟩
 | k :: ks, first, j, ns, h, h2 => by
   rw [argsL]
   by_cases hb : blkB k = true
   ·rw [if_pos hb]
    by_cases h6 : atT 6 (R.drop j) = true
    ·rw [if_pos h6]
     have := atT_len h6
     rw [List.length_drop] at this
     exact ⟨j + 1, by omega, by omega, by rw [List.tail_drop], by omega⟩
    ·rw [if_neg h6]; exact ⟨j, rfl⟩
   rw [if_neg hb]
   by_cases h9 : first = false ∧ atT 9 (R.drop j) = false
   ·rw [if_pos h9]; exact ⟨j, rfl⟩
   rw [if_neg h9]
   obtain ⟨i, hi1, hi2, hi3⟩ : ∃ i, j ≤ i ∧ i ≤ R.length ∧ (if first = false then (R.drop j).tail else R.drop j) = R.drop i := by
    by_cases hl : first = false
    ·rw [if_pos hl]
     have h9' : atT 9 (R.drop j) = true := by
      cases h : atT 9 (R.drop j) with
      | true => rfl
      | false => exact absurd ⟨hl, h⟩ h9
     have := atT_len h9'
     rw [List.length_drop] at this
     exact ⟨j + 1, by omega, by omega, by rw [List.tail_drop]⟩
    ·rw [if_neg hl]; exact ⟨j, by omega, h, rfl⟩
   rw [hi3]
   have hk := hs k (R.drop i)
   cases hx : sub k (R.drop i) with
   | no x => rw [hx] at hk; obtain ⟨k, rfl⟩ := hk; exact ⟨i + k, by rw [List.drop_drop]⟩
   | ok r1 n1 =>
     rw [hx] at hk
     obtain ⟨q, k1, k2, rfl, k4⟩ := hk
     rw [List.length_drop] at k2
     rw [List.drop_drop]
     simp only []
     have := argsL_good R ks false (i + q) (ns ++ n1) (by omega) (by simp only [List.length_append]; omega)
     cases hy : argsL sub ks false (ns ++ n1) (R.drop (i + q)) with
     | no x => rw [hy] at this; exact this
     | ok x n2 => rw [hy] at this; obtain ⟨z, z1, z2, z3, z4⟩ := this; exact ⟨z, by omega, z2, z3, z4⟩
theorem blksL_good (R : List TokI) : ∀ (ks : List UInt8) (j : Nat) (ns : List Nd), j ≤ R.length → ns.length + 1 ≤ j →
  match blksL sub ks ns (R.drop j) with | .no x => ∃ k, x = R.drop k | .ok x ns => ∃ k, j ≤ k ∧ k ≤ R.length ∧ x = R.drop k ∧ ns.length + 1 ≤ k
 | [], j, ns, h, h2 => ⟨j, Nat.le_refl _, h, rfl, h2⟩
 | k :: ks, j, ns, h, h2 => by
   rw [blksL]
   have hk := blockP_good hs k (R.drop j)
   cases hx : blockP sub k (R.drop j) with
   | no x => rw [hx] at hk; obtain ⟨k, rfl⟩ := hk; exact ⟨j + k, by rw [List.drop_drop]⟩
   | ok r1 n1 =>
     rw [hx] at hk
     obtain ⟨q, k1, k2, rfl, k4⟩ := hk
     rw [List.length_drop] at k2
     rw [List.drop_drop]
     simp only []
     have := blksL_good R ks (j + q) (ns ++ n1) (by omega) (by simp only [List.length_append]; omega)
     cases hy : blksL sub ks (ns ++ n1) (R.drop (j + q)) with
     | no x => rw [hy] at this; exact this
     | ok x n2 => rw [hy] at this; obtain ⟨z, z1, z2, z3, z4⟩ := this; exact ⟨z, by omega, z2, z3, z4⟩
theorem opsP_good (kinds : List UInt8) (R : List TokI) (j : Nat) (h : j ≤ R.length) (h1 : 1 ≤ j) :
  match opsP sub kinds (R.drop j) with | .no x => ∃ k, x = R.drop k | .ok x ns => ∃ k, j ≤ k ∧ k ≤ R.length ∧ x = R.drop k ∧ ns.length + 1 ≤ k := by
 unfold opsP
 by_cases hn : kinds = []
 ·rw [if_pos hn]; exact ⟨j, Nat.le_refl _, h, rfl, by simpa using h1⟩
 rw [if_neg hn]
 by_cases h5 : atT 5 (R.drop j) = false
 ·rw [if_pos h5]; exact ⟨j, rfl⟩
 rw [if_neg h5]
 have h5' : atT 5 (R.drop j) = true := by simpa using h5
 have := atT_len h5'
 rw [List.length_drop] at this
 rw [List.tail_drop]
 have ha := argsL_good hs R kinds true (j + 1) [] (by omega) (by simp)
 cases hx : argsL sub kinds true [] (R.drop (j + 1)) with
 | no x => rw [hx] at ha; exact ha
 | ok r1 n1 =>
   rw [hx] at ha
   obtain ⟨q, k1, k2, rfl, k4⟩ := ha
   simp only []
   have hb := blksL_good hs R (kinds.dropWhile fun k => !blkB k) q n1 k2 k4
   cases hy : blksL sub (kinds.dropWhile fun k => !blkB k) n1 (R.drop q) with
   | no x => rw [hy] at hb; exact hb
   | ok x n2 => rw [hy] at hb; obtain ⟨z, z1, z2, z3, z4⟩ := hb; exact ⟨z, by omega, z2, z3, z4⟩
theorem wordP_good (k : UInt8) (w : List UInt8) (R : List TokI) (h : 1 ≤ R.length) : PGood1 R (wordP sub k w R) := by
 unfold wordP
 cases hv : varW w with
 | some x =>
   obtain ⟨op, n⟩ := x
   simp only []
   split
   ·exact ⟨1, by omega, h, by rw [List.drop_one], by simp⟩
   ·exact ⟨0, rfl⟩
 | none =>
   simp only []
   split
   ·exact ⟨0, rfl⟩
   split
   ·split
    ·have := opsP_good hs [101] R 1 h (by omega)
     rw [← List.drop_one]
     cases hx : opsP sub [101] (R.drop 1) with
     | no x => rw [hx] at this; exact this
     | ok x ns => rw [hx] at this; obtain ⟨z, z1, z2, z3, z4⟩ := this; exact ⟨z, z1, z2, z3, by simpa using z4⟩
    ·exact ⟨1, by omega, h, by rw [List.drop_one], by simp⟩
   ·have := opsP_good hs (formP (opW w)).2 R 1 h (by omega)
    rw [← List.drop_one]
    cases hx : opsP sub (formP (opW w)).2 (R.drop 1) with
    | no x => rw [hx] at this; exact this
    | ok x ns =>
      rw [hx] at this
      obtain ⟨z, z1, z2, rfl, z4⟩ := this
      simp only []
      split
      ·rename_i he
       have hl : 1 ≤ (R.drop z).length := by
        cases hd : R.drop z with
        | nil => rw [hd] at he; cases he.2
        | cons t q => simp
       rw [List.length_drop] at hl
       rw [List.tail_drop]
       have hk := blockP_good hs 83 (R.drop (z + 1))
       cases hy : blockP sub 83 (R.drop (z + 1)) with
       | no x => rw [hy] at hk; obtain ⟨k, rfl⟩ := hk; exact ⟨z + 1 + k, by rw [List.drop_drop]⟩
       | ok r2 n2 =>
         rw [hy] at hk
         obtain ⟨q, k1, k2, rfl, k4⟩ := hk
         rw [List.length_drop] at k2
         exact ⟨z + 1 + q, by omega, by omega, by rw [List.drop_drop], by simp only [List.length_cons, List.length_append]; omega⟩
      ·exact ⟨z, z1, z2, rfl, by simpa using z4⟩
end
theorem subP_good : ∀ (f : Nat) (k : UInt8) (R : List TokI), PGood1 R (subP f k R)
 | 0, k, R => ⟨0, rfl⟩
 | f + 1, k, R => by
   cases R with
   | nil => exact ⟨0, rfl⟩
   | cons t q =>
     unfold subP
     simp only []
     split
     ·exact nameP_good (subP_good f) _ _ _ (by simp)
     split
     ·exact wordP_good (subP_good f) _ _ _ (by simp)
     split
     ·exact ⟨1, by omega, by simp, rfl, by simp⟩
     split
     ·exact ⟨1, by omega, by simp, rfl, by simp⟩
     ·exact ⟨0, rfl⟩
end
section
open Go.RowKit
def fieldsB (n : Nd) (k : UInt8) : Bool :=
 (if n.kind = 1 then true else if n.kind = 6 then decide (n.num < 8) else if n.kind = 7 then decide (n.num < 7) else n.num == 0) &&
 (if n.kind = 3 ∨ n.kind = 5 then nameB k n.str else if n.kind = 2 then decide (n.str.length ≤ 255) else n.str == [])
def kidsK (n : Nd) : Option (List UInt8) :=
 if n.kind = 5 then (if 0 ≤ n.pos ∧ n.pos ≤ 7 then some (List.replicate n.pos.toNat 101) else none)
 else if n.kind = 33 then (if 0 ≤ n.pos ∧ n.pos ≤ 1 then some (List.replicate n.pos.toNat 101) else none)
 else if n.kind = 31 ∧ n.pos = 3 then some [101, 83, 83]
 else if ((formP n.kind).2.length : Int) = n.pos then some (formP n.kind).2 else none
def nextN (f : Nat → Option Nat) : Nat → Nat → Option Nat
 | 0, i => some i
 | m + 1, i => match f i with
   | none => none
   | some j => nextN f m j
def nextK (f : UInt8 → Nat → Option Nat) : List UInt8 → Nat → Option Nat
 | [], i => some i
 | k :: ks, i => match f k i with
   | none => none
   | some j => nextK f ks j
def vAny (p : List Nd) : Nat → Bool → UInt8 → Nat → Option Nat
 | 0, _, _, _ => none
 | d + 1, true, k, i => match p[i]? with
   | none => none
   | some n => if n.kind = 4 ∧ n.num = 0 ∧ n.str = [] ∧ 0 ≤ n.pos then nextN (vAny p d false k) n.pos.toNat (i + 1) else none
 | d + 1, false, k, i => match p[i]? with
   | none => none
   | some n => if accB k n.kind = true ∧ fieldsB n k = true then (match kidsK n with
     | none => none
     | some ks => nextK (fun k j => vAny p d (blkB k) k j) ks (i + 1)) else none
def vTop (p : List Nd) : Nat → Nat → Bool
 | 0, i => decide (p.length ≤ i)
 | f + 1, i => if p.length ≤ i then true else match vAny p 32 false 68 i with
   | none => false
   | some j => vTop p f j
def validL (p : List Nd) : Bool := decide (p.length ≤ 2048) && vTop p p.length 0
theorem nextN_good {f : Nat → Option Nat} {L : Nat} (h : ∀ i j, f i = some j → i < j ∧ j ≤ L) : ∀ (m i j : Nat), nextN f m i = some j → i ≤ L → i ≤ j ∧ j ≤ L
 | 0, i, j, e, hi => by rw [nextN] at e; injection e with e; omega
 | m + 1, i, j, e, hi => by
   rw [nextN] at e
   cases hf : f i with
   | none => rw [hf] at e; cases e
   | some k =>
     rw [hf] at e
     have := h i k hf
     have := nextN_good h m k j e this.2
     omega
theorem nextK_good {f : UInt8 → Nat → Option Nat} {L : Nat} (h : ∀ k i j, f k i = some j → i < j ∧ j ≤ L) : ∀ (ks : List UInt8) (i j : Nat), nextK f ks i = some j → i ≤ L → i ≤ j ∧ j ≤ L
 | [], i, j, e, hi => by rw [nextK] at e; injection e with e; omega
 | k :: ks, i, j, e, hi => by
   rw [nextK] at e
   cases hf : f k i with
   | none => rw [hf] at e; cases e
   | some q =>
     rw [hf] at e
     have := h k i q hf
     have := nextK_good h ks q j e this.2
     omega
theorem vAny_good (p : List Nd) : ∀ (d : Nat) (b : Bool) (k : UInt8) (i j : Nat), vAny p d b k i = some j → i < j ∧ j ≤ p.length
 | 0, b, k, i, j, e => by rw [vAny] at e; cases e
 | d + 1, true, k, i, j, e => by
   rw [vAny] at e
   cases hn : p[i]? with
   | none => rw [hn] at e; cases e
   | some n =>
     rw [hn] at e
     simp only [] at e
     have hi : i < p.length := (List.getElem?_eq_some_iff.1 hn).1
     split at e
     ·have := nextN_good (fun i j => vAny_good p d false k i j) _ _ _ e (by omega)
      omega
     ·cases e
 | d + 1, false, k, i, j, e => by
   rw [vAny] at e
   cases hn : p[i]? with
   | none => rw [hn] at e; cases e
   | some n =>
     rw [hn] at e
     simp only [] at e
     have hi : i < p.length := (List.getElem?_eq_some_iff.1 hn).1
     split at e
     ·cases hk : kidsK n with
      | none => rw [hk] at e; cases e
      | some ks =>
        rw [hk] at e
        have := nextK_good (fun k i j => vAny_good p d (blkB k) k i j) _ _ _ e (by omega)
        omega
     ·cases e
end
section
open Go.RowKit
attribute [local go_sem] ByteArray.mk_append_mk bs_get bs_cut bs_end
def TAt (w : World) (b off : Nat) (t : TokI) : Prop := w.cell? ⟨b, off, none⟩ = some (.int .i64 t.kind) ∧ w.cell? ⟨b, off + 1, none⟩ = some (.int .u64 t.num) ∧ w.cell? ⟨b, off + 2, none⟩ = some (.string ⟨t.str.toArray⟩) ∧ w.cell? ⟨b, off + 3, none⟩ = some (.int .i64 t.pos)
def tcI : List TokI → List Value
 | [] => []
 | t :: r => .int .i64 t.kind :: .int .u64 t.num :: .string ⟨t.str.toArray⟩ :: .int .i64 t.pos :: tcI r
theorem tcI_app : ∀ l m : List TokI, tcI (l ++ m) = tcI l ++ tcI m
 | [], m => rfl
 | t :: r, m => by rw [List.cons_append, tcI, tcI, tcI_app r m]; rfl
theorem tcI_len : ∀ l : List TokI, (tcI l).length = l.length * 4
 | [] => rfl
 | t :: r => by simp only [tcI, List.length_cons, tcI_len r]; omega
theorem tcI_at : ∀ (l : List TokI) (i : Nat) (h : i < l.length), (tcI l)[i * 4]? = some (.int .i64 l[i].kind) ∧ (tcI l)[i * 4 + 1]? = some (.int .u64 l[i].num) ∧ (tcI l)[i * 4 + 2]? = some (.string ⟨l[i].str.toArray⟩) ∧ (tcI l)[i * 4 + 3]? = some (.int .i64 l[i].pos)
 | t :: r, 0, _ => ⟨rfl, rfl, rfl, rfl⟩
 | t :: r, i + 1, h => by
   have := tcI_at r i (by simpa using h)
   rw [show (i + 1) * 4 = i * 4 + 4 by omega]
   exact this
def TokB (w : World) (B : Nat) (v : Value) (l : List TokI) : Prop :=
 ∃ (a : Option Addr) (cap : Nat), v = .slice a l.length cap ∧ l.length ≤ cap ∧ (l ≠ [] → ∃ b off, a = some ⟨b, off, none⟩ ∧ b < B ∧ ∀ i (h : i < l.length), TAt w b (off + i * 4) l[i])
theorem TAt.belowB {w w' : World} {B b off : Nat} {t : TokI} (h : TAt w b off t) (hb : Below B w w') (hB : b < B) : TAt w' b off t := by
 obtain ⟨h0, h1, h2, h3⟩ := h
 refine ⟨?_, ?_, ?_, ?_⟩
 ·rw [hb.cell (p := ⟨b, off, none⟩) hB]; exact h0
 ·rw [hb.cell (p := ⟨b, off + 1, none⟩) hB]; exact h1
 ·rw [hb.cell (p := ⟨b, off + 2, none⟩) hB]; exact h2
 ·rw [hb.cell (p := ⟨b, off + 3, none⟩) hB]; exact h3
theorem TokB.below {w w' : World} {B : Nat} {v : Value} {l : List TokI} (h : TokB w B v l) (hb : Below B w w') : TokB w' B v l := by
 obtain ⟨a, cap, hv, hl, hc⟩ := h
 refine ⟨a, cap, hv, hl, fun hn => ?_⟩
 obtain ⟨b, off, ha, hB, hk⟩ := hc hn
 exact ⟨b, off, ha, hB, fun i hi => (hk i hi).belowB hb hB⟩
def tailV : Value → Value
 | .slice a n cap => sliced a 1 n cap 4
 | v => v
theorem TokB.tail {w : World} {B : Nat} {v : Value} {t : TokI} {q : List TokI} (h : TokB w B v (t :: q)) : TokB w B (tailV v) q := by
 obtain ⟨a, cap, rfl, hl, hc⟩ := h
 obtain ⟨b, off, rfl, hB, hk⟩ := hc (by simp)
 rw [List.length_cons] at hl
 refine ⟨some (if cap = 1 then ⟨b, off, none⟩ else (Addr.add ⟨b, off, none⟩ (1 * 4))), cap - 1, ?_, by omega, fun hn => ?_⟩
 ·by_cases h1 : cap = 1 <;> simp [tailV, sliced, slicedAt, h1]
 ·have hq := List.length_pos_iff.2 hn
  rw [if_neg (by omega)]
  refine ⟨b, off + 4, by simp [Addr.add], hB, fun i hi => ?_⟩
  have := hk (i + 1) (by simpa using hi)
  rw [show off + (i + 1) * 4 = off + 4 + i * 4 by omega] at this
  simpa using this
def NodesI (w : World) (B : Nat) (v : Value) (l : List Nd) : Prop := w.ownsRow B 42 4 v l.length (tcI l)
theorem NodesI.nil (w : World) (B : Nat) : NodesI w B (.slice none 0 0) [] := ⟨rfl, .inl ⟨rfl, rfl⟩⟩
theorem NodesI.below {w w' : World} {B : Nat} {v : Value} {l : List Nd} (h : NodesI w B v l) (hb : Below w.heap.size w w') : NodesI w' B v l := own_below h hb
theorem NodesI.base {w : World} {B B' : Nat} {v : Value} {l : List Nd} (h : NodesI w B v l) (hB : B' ≤ B) : NodesI w B' v l := own_base h hB
theorem NodesI.form {w : World} {B : Nat} {v : Value} {l : List Nd} (h : NodesI w B v l) : ∃ a c, v = .slice a l.length c := by
 rcases h.2 with ⟨rfl, h0⟩ | ⟨g, cap, cur, rfl, _⟩
 ·exact ⟨none, 0, by rw [h0]⟩
 ·exact ⟨_, cap, rfl⟩
abbrev psObj (tv : Value) (E bad : Int) (nv : Value) : Obj := .cells #[tv, .int .i64 E, .int .i64 bad, nv] 84 (0, 0)
theorem own_ps {w : World} {B : Nat} {v : Value} {l : List Nd} (h : NodesI w B v l) {b : Nat} {tv nv : Value} {E bad : Int} (hb : w.heap[b]? = some (psObj tv E bad nv)) : v.ownBlock ≠ some b := by
 intro e
 obtain ⟨cur, hc⟩ := own_type h e
 rw [hb] at hc
 injection hc with hc
 injection hc with _ h2 _
 exact absurd h2 (by decide)
theorem own_setOther {w : World} {B e z : Nat} {v : Value} {n : Nat} {xs : List Value} (h : w.ownsRow B e z v n xs) (p : Addr) (u : Value) (hp : v.ownBlock ≠ some p.block) : (w.setCell p u).ownsRow B e z v n xs := by
 refine own_grown (row := some p.block) h ⟨rfl, rfl, rfl, by simp [World.setCell], fun k hk hne => Below.heap_setCell _ _ _ _ (fun e => hne (by rw [e]))⟩ (fun g hg e => hp (by rw [hg, e]))
def TGood (r : List TokI) : Prop := ∀ t ∈ r, t.str.length ≤ 65536 ∧ (t.kind = 2 → t.str ≠ [])
theorem TGood.drop {r : List TokI} (h : TGood r) (k : Nat) : TGood (r.drop k) := fun t ht => h t (List.mem_of_mem_drop ht)
def SynG (m : Int) (w : World) : Prop := w.cell? ⟨3, 0, none⟩ = some (.int .i64 m) ∧
 (∀ j (h : j < exprT.length), w.cell? ⟨2, 2 * j, none⟩ = some (.string ⟨exprT[j].1.toArray⟩) ∧ w.cell? ⟨2, 2 * j + 1, none⟩ = some (.string ⟨exprT[j].2.toArray⟩)) ∧
 (∀ j (h : j < stmtT.length), w.cell? ⟨1, 2 * j, none⟩ = some (.string ⟨stmtT[j].1.toArray⟩) ∧ w.cell? ⟨1, 2 * j + 1, none⟩ = some (.string ⟨stmtT[j].2.toArray⟩)) ∧
 (∀ j (h : j < declT.length), w.cell? ⟨0, 2 * j, none⟩ = some (.string ⟨declT[j].1.toArray⟩) ∧ w.cell? ⟨0, 2 * j + 1, none⟩ = some (.string ⟨declT[j].2.toArray⟩))
def SynB (B : Nat) : Prop := 3 < B ∧ 2 < B ∧ 1 < B ∧ 0 < B
theorem SynG.low {m : Int} {w : World} (h : SynG m w) : SynB w.heap.size :=
 ⟨World.block_lt_of_cell? w _ h.1, World.block_lt_of_cell? w _ (h.2.1 0 (by decide)).1, World.block_lt_of_cell? w _ (h.2.2.1 0 (by decide)).1, World.block_lt_of_cell? w _ (h.2.2.2 0 (by decide)).1⟩
theorem SynG.below {m : Int} {w w' : World} {B : Nat} (h : SynG m w) (hb : Below B w w') (hB : SynB B) : SynG m w' := by
 obtain ⟨h1, h2, h3, h4⟩ := h
 refine ⟨(hb.cell (p := ⟨3, 0, none⟩) hB.1).trans h1, fun j hj => ⟨?_, ?_⟩, fun j hj => ⟨?_, ?_⟩, fun j hj => ⟨?_, ?_⟩⟩
 ·exact (hb.cell (p := ⟨_, 2 * j, none⟩) hB.2.1).trans (h2 j hj).1
 ·exact (hb.cell (p := ⟨_, 2 * j + 1, none⟩) hB.2.1).trans (h2 j hj).2
 ·exact (hb.cell (p := ⟨_, 2 * j, none⟩) hB.2.2.1).trans (h3 j hj).1
 ·exact (hb.cell (p := ⟨_, 2 * j + 1, none⟩) hB.2.2.1).trans (h3 j hj).2
 ·exact (hb.cell (p := ⟨_, 2 * j, none⟩) hB.2.2.2).trans (h4 j hj).1
 ·exact (hb.cell (p := ⟨_, 2 * j + 1, none⟩) hB.2.2.2).trans (h4 j hj).2
structure PSt (m E : Int) (B b : Nat) (w : World) (r : List TokI) (o : List Nd) : Prop where
 ex : ∃ tv bad nv, w.heap[b]? = some (psObj tv E bad nv) ∧ TokB w B tv r ∧ NodesI w B nv o
 base : B ≤ b
 size : B ≤ w.heap.size
 syn : SynG m w
 hund : SynB B
 good : TGood r
theorem PSt.below {m E : Int} {B b : Nat} {w w' : World} {r : List TokI} {o : List Nd} (h : PSt m E B b w r o) (hb : Below w.heap.size w w') : PSt m E B b w' r o := by
 obtain ⟨⟨tv, bad, nv, h1, h2, h3⟩, h4, h5, h6, h7, h8⟩ := h
 exact ⟨⟨tv, bad, nv, blk_below h1 hb, h2.below (hb.mono h5), h3.below hb⟩, h4, Nat.le_trans h5 hb.size, h6.below (hb.mono h5) h7, h7, h8⟩
theorem PSt.alloc {m E : Int} {B b : Nat} {w : World} {r : List TokI} {o : List Nd} (h : PSt m E B b w r o) (x : Obj) : PSt m E B b (w.alloc x) r o := h.below ((Below.refl _ _).alloc (Nat.le_refl _) _)
def PBad (E : Int) (b : Nat) (x : List TokI) (w : World) : Prop := ∃ tv nv, w.heap[b]? = some (psObj tv E (posT E x) nv)
def SynPost (m E : Int) (B b : Nat) (w : World) (o : List Nd) (x : PR) (e : Ending) (w' : World) : Prop :=
 Below B w w' ∧ match x with
  | .no y => e = .returned (.bool false) ∧ PBad E b y w'
  | .ok y ns => e = .returned (.bool true) ∧ PSt m E B b w' y (o ++ ns)
theorem at_any (m E : Int) (B b : Nat) (k : Int) (w : World) (r : List TokI) (o : List Nd) (h : PSt m E B b w r o) (hr : r.length ≤ 1000000) :
  Calls Tryz.prog 129 #[.pointer (some ⟨b, 0, none⟩), .int .i64 k] w fun e w' => e = .returned (.bool (atT k r)) ∧ w = w' := by
 obtain ⟨⟨tv, bad, nv, h1, h2, h3⟩, h4, h5, h6, h7, h8⟩ := h
 obtain ⟨a, cap, rfl, hl, hc⟩ := h2
 obtain ⟨c0, c1, c2, c3⟩ := cells4 h1
 clear h3 h6 h8 h1
 cases r with
 | nil =>
   clear hc
   go_enter Tryz.func129, Tryz.ntmps129
   go_wp2_with fail
   go_ret
   exact ⟨rfl, rfl⟩
 | cons t q =>
   obtain ⟨g, off, rfl, hB, hk⟩ := hc (by simp)
   obtain ⟨d0, d1, d2, d3⟩ := hk 0 (by simp)
   have hq : (0 : Int) < ((t :: q).length : Int) := by simp only [List.length_cons]; omega
   simp only [Nat.zero_mul, Nat.add_zero, List.getElem_cons_zero] at d0 d1 d2 d3
   clear hk hc
   go_enter Tryz.func129, Tryz.ntmps129
   go_wp2_with fail
   go_ret
   exact ⟨rfl, rfl⟩
theorem fail_any (m E : Int) (B b : Nat) (w : World) (r : List TokI) (o : List Nd) (h : PSt m E B b w r o) (hr : r.length ≤ 1000000) :
  Calls Tryz.prog 84 #[.pointer (some ⟨b, 0, none⟩)] w fun e w' => e = .returned (.bool false) ∧ PBad E b r w' ∧ Below B w w' := by
 obtain ⟨⟨tv, bad, nv, h1, h2, h3⟩, h4, h5, h6, h7, h8⟩ := h
 obtain ⟨a, cap, rfl, hl, hc⟩ := h2
 have HP := Lib.hid h1
 obtain ⟨c0, c1, c2, c3⟩ := cells4 h1
 have f2 := free3 h1 2
 clear h3 h6 h8 h1
 cases r with
 | nil =>
   clear hc
   go_enter Tryz.func84, Tryz.ntmps84
   go_wp2_with fail
   go_ret
   refine ⟨rfl, ⟨_, nv, heap_setCell_same _ _ 2 _ _ _ HP.out⟩, (Below.refl _ _).setCell h4 _⟩
 | cons t q =>
   obtain ⟨g, off, rfl, hB, hk⟩ := hc (by simp)
   obtain ⟨d0, d1, d2, d3⟩ := hk 0 (by simp)
   have hq : (0 : Int) < ((t :: q).length : Int) := by simp only [List.length_cons]; omega
   simp only [Nat.zero_mul, Nat.add_zero, List.getElem_cons_zero] at d0 d1 d2 d3
   clear hk hc
   go_enter Tryz.func84, Tryz.ntmps84
   go_wp2_with fail
   go_ret
   exact ⟨rfl, ⟨_, nv, heap_setCell_same _ _ 2 _ _ _ (heap_setCell_same _ _ 2 _ _ _ HP.out)⟩, ((Below.refl _ _).setCell h4 _).setCell h4 _⟩
theorem PSt.setTok {m E : Int} {B b : Nat} {w : World} {r r' : List TokI} {o : List Nd} {tv nv u : Value} {bad : Int} (h : PSt m E B b w r o) (hb : w.heap[b]? = some (psObj tv E bad nv)) (hn : NodesI w B nv o) (hu : TokB w B u r') (hg : TGood r') :
  PSt m E B b (w.setCell ⟨b, 0, none⟩ u) r' o :=
 have hB : Below B w (w.setCell ⟨b, 0, none⟩ u) := (Below.refl _ _).setCell h.base _
 ⟨⟨u, bad, nv, heap_setCell_same _ _ 0 _ _ _ hb, hu.below hB, own_setOther hn _ _ (own_ps hn hb)⟩, h.base, Nat.le_trans h.size hB.size, h.syn.below hB h.hund, h.hund, hg⟩
theorem skip_any (m E : Int) (B b : Nat) (w : World) (t : TokI) (q : List TokI) (o : List Nd) (h : PSt m E B b w (t :: q) o) (hr : q.length ≤ 1000000) :
  Calls Tryz.prog 87 #[.pointer (some ⟨b, 0, none⟩)] w fun e w' => e = .returned (.tuple #[]) ∧ PSt m E B b w' q o ∧ Below B w w' := by
 have H := Lib.hid h
 obtain ⟨⟨tv, bad, nv, h1, h2, h3⟩, h4, h5, h6, h7, h8⟩ := h
 have KEY : Hid (∀ u, u = tailV tv → PSt m E B b (w.setCell ⟨b, 0, none⟩ u) q o) := Lib.hid (by rintro _ rfl; exact H.out.setTok h1 h3 h2.tail (h8.drop 1))
 obtain ⟨a, cap, rfl, hl, hc⟩ := h2
 obtain ⟨c0, c1, c2, c3⟩ := cells4 h1
 have f0 := free3 h1 0
 have hq : (1 : Int) ≤ ((t :: q).length : Int) := by simp only [List.length_cons]; omega
 clear h3 h6 h8 h1 hc
 go_enter Tryz.func87, Tryz.ntmps87
 go_wp2_with fail
 all_goals
  go_end0
  exact ⟨rfl, KEY.out _ (by simp [tailV, sliced, slicedAt, h, Addr.add]), (Below.refl _ _).setCell h4 _⟩
theorem punct_any (m E : Int) (B b : Nat) (k : Int) (w : World) (r : List TokI) (o : List Nd) (h : PSt m E B b w r o) (hr : r.length ≤ 1000000) :
  Calls Tryz.prog 159 #[.pointer (some ⟨b, 0, none⟩), .int .i64 k] w (SynPost m E B b w o (if atT k r = true then .ok r.tail [] else .no r)) := by
 have H := Lib.hid h
 have HA := Lib.hid (at_any m E B b k w r o h hr)
 cases hk : atT k r
 ·rw [hk] at HA
  rw [if_neg (by decide)]
  have HF := Lib.hid (fail_any m E B b w r o h hr)
  clear h hk
  go_enter Tryz.func159, Tryz.ntmps159
  go_wp2_with fail
  ((with_reducible refine HA.out.mono ?_))
  rintro e w1 ⟨rfl, rfl⟩
  go_wp2_with fail
  ((with_reducible refine HF.out.mono ?_))
  rintro e w1 ⟨rfl, hb, hB⟩
  have HB := Lib.hid hb
  have HL := Lib.hid hB
  clear hb hB
  go_wp2_with fail
  go_ret
  exact ⟨HL.out, rfl, HB.out⟩
 ·rw [hk] at HA
  rw [if_pos rfl]
  cases r with
  | nil => cases hk
  | cons t q =>
    have HS := Lib.hid (skip_any m E B b w t q o h (by simp at hr; omega))
    clear h hk
    go_enter Tryz.func159, Tryz.ntmps159
    go_wp2_with fail
    ((with_reducible refine HA.out.mono ?_))
    rintro e w1 ⟨rfl, rfl⟩
    go_wp2_with fail
    ((with_reducible refine HS.out.mono ?_))
    rintro e w1 ⟨rfl, hb, hB⟩
    have HB := Lib.hid hb
    have HL := Lib.hid hB
    clear hb hB
    go_wp2_with fail
    go_ret
    exact ⟨HL.out, rfl, by rw [List.append_nil]; exact HB.out⟩
end
end Go.Proofs.YtnicnfchkdmieaaGreatDoor
