/- Tka Tkb -/
import Derived.Test.YtnicnfchkdmieaaGreatDoorZa
set_option linter.unusedVariables false
set_option linter.unusedSimpArgs false
namespace Go.Proofs.YtnicnfchkdmieaaGreatDoor
section
open Go.RowKit
def wordN (s : List UInt8) : Nat := (s.takeWhile idB).length
def caretN (s : List UInt8) : Nat := (s.takeWhile (· == 94)).length
def preN : List UInt8 → Nat
 | 92 :: _ => 1
 | s => caretN s
def segsN : Nat → List UInt8 → Option Nat
 | 0, _ => none
 | _ + 1, [] => none
 | f + 1, c :: r => if letterB c = false then none else if segB ((c :: r).take (wordN (c :: r))) = false then none else
     match (c :: r).drop (wordN (c :: r)) with
     | 46 :: t => (segsN f t).map (wordN (c :: r) + 1 + ·)
     | _ => some (wordN (c :: r))
def nameN (s : List UInt8) : Option Nat :=
 match s.drop (preN s) with
 | [] => if 0 < preN s then some (preN s) else none
 | c :: r => if letterB c = true then (segsN (c :: r).length (c :: r)).map (preN s + ·) else if 0 < preN s then some (preN s) else none
def hexV (c : UInt8) : Option Nat :=
 if digitB c = true then some (c.toNat - 48) else if 97 ≤ c.toNat ∧ c.toNat ≤ 102 then some (c.toNat - 87) else if 65 ≤ c.toNat ∧ c.toNat ≤ 70 then some (c.toNat - 55) else none
def hexF : List UInt8 → Nat → Option Nat
 | [], v => some v
 | c :: r, v => match hexV c with
   | some d => hexF r (v * 16 + d)
   | none => none
def decF : List UInt8 → Nat → Option Nat
 | [], v => some v
 | c :: r, v => if digitB c = true then (if (18446744073709551615 - (c.toNat - 48)) / 10 < v then none else decF r (v * 10 + (c.toNat - 48))) else none
def intV : List UInt8 → Option Nat
 | 48 :: 120 :: d => if d = [] ∨ 16 < d.length then none else hexF d 0
 | [48] => some 0
 | 48 :: _ => none
 | s => decF s 0
def textF : List UInt8 → List UInt8 → Option (List UInt8 × List UInt8)
 | [], _ => none
 | 34 :: r, v => if 255 < v.length then none else some (v, r)
 | 92 :: 34 :: r, v => textF r (v ++ [34])
 | 92 :: 92 :: r, v => textF r (v ++ [92])
 | 92 :: 120 :: h :: l :: r, v => match hexV h, hexV l with
   | some a, some b => textF r (v ++ [UInt8.ofNat (a * 16 + b)])
   | _, _ => none
 | 92 :: _, _ => none
 | c :: r, v => if 32 ≤ c.toNat ∧ c.toNat ≤ 126 then textF r (v ++ [c]) else none
def closeL : List UInt8 → Option (List UInt8)
 | [] => none
 | 42 :: 47 :: r => some r
 | _ :: r => closeL r
def blankB (c : UInt8) : Bool := c == 32 || c == 9 || c == 13 || c == 10
theorem closeL_len : ∀ (s r : List UInt8), closeL s = some r → r.length + 2 ≤ s.length
 | [], r, h => by simp [closeL] at h
 | 42 :: 47 :: t, r, h => by
   rw [closeL] at h
   injection h with h
   subst h
   simp
 | c :: t, r, h => by
   unfold closeL at h
   split at h
   ·cases h
   ·next heq =>
    injection heq with h1 h2
    subst h1 h2
    injection h with h
    subst h
    simp
   ·next heq =>
    injection heq with h1 h2
    subst h1 h2
    have := closeL_len _ r h
    simp; omega
def skipF : Nat → List UInt8 → List UInt8 × Bool
 | 0, s => (s, true)
 | f + 1, s => match s with
   | [] => ([], true)
   | 47 :: 47 :: r => skipF f ((47 :: 47 :: r).dropWhile (· != 10))
   | 47 :: 42 :: r => match closeL r with
     | some t => skipF f t
     | none => (47 :: 42 :: r, false)
   | c :: r => if blankB c = true then skipF f r else (c :: r, true)
theorem dropLine_len (r : List UInt8) : ((47 :: 47 :: r : List UInt8).dropWhile (· != 10)).length ≤ r.length := by
 have h1 : (47 :: 47 :: r : List UInt8).dropWhile (· != 10) = r.dropWhile (· != 10) := by simp
 rw [h1]
 exact (List.dropWhile_sublist _).length_le
theorem skipF_fuel : ∀ (f g : Nat) (s : List UInt8), s.length < f → s.length < g → skipF f s = skipF g s
 | 0, _, _, h, _ => absurd h (by omega)
 | _ + 1, 0, _, _, h => absurd h (by omega)
 | f + 1, g + 1, s, h1, h2 => by
   unfold skipF
   split
   ·rfl
   ·next r =>
    have := dropLine_len r
    simp only [List.length_cons] at h1 h2
    exact skipF_fuel f g _ (by omega) (by omega)
   ·next r =>
    simp only [List.length_cons] at h1 h2
    split
    ·next t ht =>
     have := closeL_len r t ht
     exact skipF_fuel f g _ (by omega) (by omega)
    ·rfl
   ·next c r _ _ =>
    simp only [List.length_cons] at h1 h2
    split
    ·exact skipF_fuel f g _ (by omega) (by omega)
    ·rfl
def skipL (s : List UInt8) : List UInt8 × Bool := skipF (s.length + 1) s
theorem skipL_line (r : List UInt8) : skipL (47 :: 47 :: r) = skipL ((47 :: 47 :: r : List UInt8).dropWhile (· != 10)) := by
 have := dropLine_len r
 unfold skipL
 rw [skipF]
 exact skipF_fuel _ _ _ (by simp only [List.length_cons]; omega) (by omega)
theorem skipL_block {r t : List UInt8} (h : closeL r = some t) : skipL (47 :: 42 :: r) = skipL t := by
 have := closeL_len r t h
 unfold skipL
 rw [skipF]
 simp only [h]
 exact skipF_fuel _ _ _ (by simp only [List.length_cons]; omega) (by omega)
theorem skipL_open {r : List UInt8} (h : closeL r = none) : skipL (47 :: 42 :: r) = (47 :: 42 :: r, false) := by
 unfold skipL
 rw [skipF]
 simp only [h]
theorem skipL_blank {c : UInt8} {r : List UInt8} (h : blankB c = true) : skipL (c :: r) = skipL r := by
 have hc : c ≠ 47 := by rintro rfl; cases h
 unfold skipL
 rw [skipF]
 ·rw [if_pos h]
  exact skipF_fuel _ _ _ (by simp) (by omega)
 ·intro x e _; exact hc e
 ·intro x e _; exact hc e
theorem skipL_stop {c : UInt8} {r : List UInt8} (h : blankB c = false) (h2 : c = 47 → ∀ t, r ≠ 47 :: t ∧ r ≠ 42 :: t) : skipL (c :: r) = (c :: r, true) := by
 unfold skipL
 rw [skipF]
 ·rw [if_neg (by rw [h]; decide)]
 ·intro x e1 e2; exact (h2 e1 x).1 e2
 ·intro x e1 e2; exact (h2 e1 x).2 e2
structure Tok where
 kind : Nat
 num : Nat
 str : List UInt8
 pos : Nat
deriving DecidableEq
def punctK (c : UInt8) : Nat := if c = 40 then 5 else if c = 41 then 6 else if c = 123 then 7 else if c = 125 then 8 else if c = 44 then 9 else 0
def itemL : List UInt8 → Option (Nat × Nat × List UInt8 × Nat)
 | [] => none
 | c :: r =>
   if digitB c = true then (intV ((c :: r).take (wordN (c :: r)))).map fun v => (3, v, [], wordN (c :: r))
   else if letterB c = true then
    (if lowerB ((c :: r).take (wordN (c :: r))) = true then (if wordN (c :: r) ≤ 32 then some (2, 0, (c :: r).take (wordN (c :: r)), wordN (c :: r)) else none)
     else (nameN (c :: r)).map fun m => (1, 0, (c :: r).take m, m))
   else if c = 92 ∨ c = 94 then (nameN (c :: r)).map fun m => (1, 0, (c :: r).take m, m)
   else if c = 34 then (textF r []).map fun p => (4, 0, p.1, (c :: r).length - p.2.length)
   else if punctK c = 0 then none else some (punctK c, 0, [], 1)
def scanF (s : List UInt8) : Nat → Nat → List Tok → List Tok × Nat × Nat
 | 0, _, acc => (acc, 0, 0)
 | f + 1, p, acc =>
   if (skipL (s.drop p)).2 = false then ([], s.length - (skipL (s.drop p)).1.length, 2)
   else if (skipL (s.drop p)).1 = [] then (acc, 0, 0)
   else match itemL (skipL (s.drop p)).1 with
    | none => ([], s.length - (skipL (s.drop p)).1.length, 2)
    | some (k, v, t, n) => scanF s f (s.length - (skipL (s.drop p)).1.length + n) (acc ++ [⟨k, v, t, s.length - (skipL (s.drop p)).1.length⟩])
def scanL (s : List UInt8) : List Tok × Nat × Nat := if 65536 < s.length then ([], 0, 11) else scanF s (s.length + 1) 0 []
end
section
open Go.RowKit
attribute [local go_sem] ByteArray.mk_append_mk bs_get bs_cut bs_end
theorem tIsDigit_any (c : UInt8) (w : World) : Calls Tryz.prog 92 #[.int .u8 c.toNat] w fun e w' => e = .returned (.bool (digitB c)) ∧ w = w' := by
 have hc := c.toNat_lt
 unfold digitB
 generalize c.toNat = n at *
 have HR : Hid (decide ((n : Int) ≤ 57) = decide (48 ≤ n ∧ n ≤ 57) ∨ ¬ 48 ≤ n) := Lib.hid (by
  by_cases h : 48 ≤ n
  ·left; rw [Bool.eq_iff_iff, decide_eq_true_eq, decide_eq_true_eq]; omega
  ·right; exact h)
 have HF : Hid (¬ 48 ≤ n → false = decide (48 ≤ n ∧ n ≤ 57)) := Lib.hid (fun h => by rw [eq_comm, decide_eq_false_iff_not]; omega)
 generalize decide (48 ≤ n ∧ n ≤ 57) = R at *
 by_cases h : 48 ≤ n
 ·have h' : (48 : Int) ≤ n := by omega
  go_enter Tryz.func92, Tryz.ntmps92
  go_wp2_with fail
  go_ret
  exact ⟨boolOf (HR.out.resolve_right (fun x => x h)), rfl⟩
 ·have h' : ¬ (48 : Int) ≤ n := by omega
  go_enter Tryz.func92, Tryz.ntmps92
  go_wp2_with fail
  go_ret
  exact ⟨boolOf (HF.out h), rfl⟩
theorem tIsLower_any (c : UInt8) (w : World) : Calls Tryz.prog 139 #[.int .u8 c.toNat] w fun e w' => e = .returned (.bool (smallB c)) ∧ w = w' := by
 have hc := c.toNat_lt
 unfold smallB
 generalize c.toNat = n at *
 have HR : Hid (decide ((n : Int) ≤ 122) = decide (97 ≤ n ∧ n ≤ 122) ∨ ¬ 97 ≤ n) := Lib.hid (by
  by_cases h : 97 ≤ n
  ·left; rw [Bool.eq_iff_iff, decide_eq_true_eq, decide_eq_true_eq]; omega
  ·right; exact h)
 have HF : Hid (¬ 97 ≤ n → false = decide (97 ≤ n ∧ n ≤ 122)) := Lib.hid (fun h => by rw [eq_comm, decide_eq_false_iff_not]; omega)
 generalize decide (97 ≤ n ∧ n ≤ 122) = R at *
 by_cases h : 97 ≤ n
 ·have h' : (97 : Int) ≤ n := by omega
  go_enter Tryz.func139, Tryz.ntmps139
  go_wp2_with fail
  go_ret
  exact ⟨boolOf (HR.out.resolve_right (fun x => x h)), rfl⟩
 ·have h' : ¬ (97 : Int) ≤ n := by omega
  go_enter Tryz.func139, Tryz.ntmps139
  go_wp2_with fail
  go_ret
  exact ⟨boolOf (HF.out h), rfl⟩
theorem tIsLower_is (c : UInt8) (b : Bool) (H : smallB c = b) (w : World) : Calls Tryz.prog 139 #[.int .u8 c.toNat] w fun e w' => e = .returned (.bool b) ∧ w = w' := by
 rw [← H]; exact tIsLower_any c w
theorem tIsDigit_is (c : UInt8) (b : Bool) (H : digitB c = b) (w : World) : Calls Tryz.prog 92 #[.int .u8 c.toNat] w fun e w' => e = .returned (.bool b) ∧ w = w' := by
 rw [← H]; exact tIsDigit_any c w
theorem tIsStart_any (c : UInt8) (w : World) : Calls Tryz.prog 95 #[.int .u8 c.toNat] w fun e w' => e = .returned (.bool (letterB c)) ∧ w = w' := by
 have hc := c.toNat_lt
 have HN := Lib.hid (tIsLower_any c w)
 have HB : Hid (letterB c = (smallB c || decide (65 ≤ c.toNat ∧ c.toNat ≤ 90) || decide (c.toNat = 95))) := Lib.hid (by unfold letterB smallB; rw [Bool.eq_iff_iff]; simp only [decide_eq_true_eq, Bool.or_eq_true]; omega)
 obtain ⟨L, hL⟩ : ∃ L, letterB c = L := ⟨_, rfl⟩
 obtain ⟨b, hb⟩ : ∃ b, smallB c = b := ⟨_, rfl⟩
 rw [hL, hb] at HB
 rw [hb] at HN
 rw [hL]
 clear hL hb
 obtain ⟨n, hn⟩ : ∃ n, c.toNat = n := ⟨_, rfl⟩
 rw [hn] at HB HN hc ⊢
 clear hn
 go_enter Tryz.func95, Tryz.ntmps95
 go_wp2_with fail
 ((with_reducible refine HN.out.mono ?_))
 rintro e w2 ⟨rfl, rfl⟩
 cases b
 ·by_cases h1 : (65 : Int) ≤ n
  ·by_cases h2 : (n : Int) ≤ 90
   ·go_wp2_with fail
    go_ret
    exact ⟨by rw [HB.out, decide_eq_true (p := 65 ≤ n ∧ n ≤ 90) (by omega)]; rfl, rfl⟩
   ·have h2' : decide ((n : Int) ≤ 90) = false := decide_eq_false h2
    have h3 : Hid (((n : Int) == 95) = decide (n = 95)) := Lib.hid (by rw [Bool.eq_iff_iff, beq_iff_eq, decide_eq_true_eq]; omega)
    go_wp2_with fail
    go_ret
    exact ⟨by rw [HB.out, decide_eq_false (p := 65 ≤ n ∧ n ≤ 90) (by omega), ← h3.out]; rfl, rfl⟩
  ·have h3 : Hid (((n : Int) == 95) = decide (n = 95)) := Lib.hid (by rw [Bool.eq_iff_iff, beq_iff_eq, decide_eq_true_eq]; omega)
   go_wp2_with fail
   go_ret
   exact ⟨by rw [HB.out, decide_eq_false (p := 65 ≤ n ∧ n ≤ 90) (by omega), ← h3.out]; rfl, rfl⟩
 ·go_wp2_with fail
  go_ret
  exact ⟨by rw [HB.out]; rfl, rfl⟩
theorem tHex_any (c : UInt8) (w : World) : Calls Tryz.prog 138 #[.int .u8 c.toNat] w fun e w' => e = .returned (.tuple #[.int .u8 ((hexV c).getD 0 : Nat), .bool (hexV c).isSome]) ∧ w = w' := by
 have hc := c.toNat_lt
 obtain ⟨b, hb⟩ : ∃ b, digitB c = b := ⟨_, rfl⟩
 have HN := Lib.hid (tIsDigit_is c b hb w)
 obtain ⟨X, hX⟩ : ∃ X, Hid (hexV c = X) := ⟨_, Lib.hid rfl⟩
 rw [hX.out]
 have HV : Hid (X = if b = true then some (c.toNat - 48) else if 97 ≤ c.toNat ∧ c.toNat ≤ 102 then some (c.toNat - 87) else if 65 ≤ c.toNat ∧ c.toNat ≤ 70 then some (c.toNat - 55) else none) := Lib.hid (by rw [← hX.out, ← hb] <;> rfl)
 have HD : Hid (b = true → 48 ≤ c.toNat ∧ c.toNat ≤ 57) := Lib.hid (by rw [← hb]; unfold digitB; simp)
 clear hX hb
 obtain ⟨n, hn⟩ : ∃ n, c.toNat = n := ⟨_, rfl⟩
 rw [hn] at HV HN hc HD ⊢
 clear hn
 go_enter Tryz.func138, Tryz.ntmps138
 go_wp2_with fail
 ((with_reducible refine HN.out.mono ?_))
 rintro e w2 ⟨rfl, rfl⟩
 cases b
 ·by_cases h1 : (97 : Int) ≤ n
  ·by_cases h2 : (n : Int) ≤ 102
   ·go_wp2_with fail
    refine bodyPost_ret (results_tmp2 rfl _ _ _) rfl ?_
    exact ⟨by rw [HV.out, if_neg (by decide), if_pos (by omega)]; simp; omega, rfl⟩
   ·go_wp2_with fail
    refine bodyPost_ret (results_tmp2 rfl _ _ _) rfl ?_
    exact ⟨by rw [HV.out, if_neg (by decide), if_neg (by omega), if_neg (by omega)]; rfl, rfl⟩
  ·by_cases h3 : (65 : Int) ≤ n
   ·by_cases h2 : (n : Int) ≤ 70
    ·go_wp2_with fail
     refine bodyPost_ret (results_tmp2 rfl _ _ _) rfl ?_
     exact ⟨by rw [HV.out, if_neg (by decide), if_neg (by omega), if_pos (by omega)]; simp; omega, rfl⟩
    ·go_wp2_with fail
     refine bodyPost_ret (results_tmp2 rfl _ _ _) rfl ?_
     exact ⟨by rw [HV.out, if_neg (by decide), if_neg (by omega), if_neg (by omega)]; rfl, rfl⟩
   ·go_wp2_with fail
    refine bodyPost_ret (results_tmp2 rfl _ _ _) rfl ?_
    exact ⟨by rw [HV.out, if_neg (by decide), if_neg (by omega), if_neg (by omega)]; rfl, rfl⟩
 ·obtain ⟨h1, h2⟩ := HD.out rfl
  go_wp2_with fail
  refine bodyPost_ret (results_tmp2 rfl _ _ _) rfl ?_
  exact ⟨by rw [HV.out]; simp; omega, rfl⟩
def hexI (c : UInt8) : Int := match hexV c with
 | some d => (d : Int)
 | none => -1
theorem rHex_any (c : UInt8) (w : World) : Calls Tryz.prog 109 #[.int .u8 c.toNat] w fun e w' => e = .returned (.int .i64 (hexI c)) ∧ w = w' := by
 have hc := c.toNat_lt
 obtain ⟨b, hb⟩ : ∃ b, digitB c = b := ⟨_, rfl⟩
 have HN := Lib.hid (digit_any c w)
 rw [hb] at HN
 obtain ⟨X, hX⟩ : ∃ X, Hid (hexI c = X) := ⟨_, Lib.hid rfl⟩
 rw [hX.out]
 have HV : Hid (X = if b = true then ((c.toNat - 48 : Nat) : Int) else if 97 ≤ c.toNat ∧ c.toNat ≤ 102 then ((c.toNat - 87 : Nat) : Int) else if 65 ≤ c.toNat ∧ c.toNat ≤ 70 then ((c.toNat - 55 : Nat) : Int) else -1) := Lib.hid (by rw [← hX.out, ← hb]; unfold hexI hexV; (repeat' split) <;> simp_all)
 have HD : Hid (b = true → 48 ≤ c.toNat ∧ c.toNat ≤ 57) := Lib.hid (by rw [← hb]; unfold digitB; simp)
 clear hX hb
 obtain ⟨n, hn⟩ : ∃ n, c.toNat = n := ⟨_, rfl⟩
 rw [hn] at HV HN hc HD ⊢
 clear hn
 go_enter Tryz.func109, Tryz.ntmps109
 go_wp2_with fail
 ((with_reducible refine HN.out.mono ?_))
 rintro e w2 ⟨rfl, rfl⟩
 cases b
 ·by_cases h1 : (97 : Int) ≤ n
  ·by_cases h2 : (n : Int) ≤ 102
   ·go_wp2_with fail
    go_ret
    exact ⟨by rw [HV.out, if_neg (by decide), if_pos (by omega)]; simp; omega, rfl⟩
   ·go_wp2_with fail
    go_ret
    exact ⟨by rw [HV.out, if_neg (by decide), if_neg (by omega), if_neg (by omega)]; rfl, rfl⟩
  ·by_cases h3 : (65 : Int) ≤ n
   ·by_cases h2 : (n : Int) ≤ 70
    ·go_wp2_with fail
     go_ret
     exact ⟨by rw [HV.out, if_neg (by decide), if_neg (by omega), if_pos (by omega)]; simp; omega, rfl⟩
    ·go_wp2_with fail
     go_ret
     exact ⟨by rw [HV.out, if_neg (by decide), if_neg (by omega), if_neg (by omega)]; rfl, rfl⟩
   ·go_wp2_with fail
    go_ret
    exact ⟨by rw [HV.out, if_neg (by decide), if_neg (by omega), if_neg (by omega)]; rfl, rfl⟩
 ·obtain ⟨h1, h2⟩ := HD.out rfl
  go_wp2_with fail
  go_ret
  exact ⟨by rw [HV.out]; simp; omega, rfl⟩
theorem punctK_is (c : UInt8) : punctK c = if c.toNat = 40 then 5 else if c.toNat = 41 then 6 else if c.toNat = 123 then 7 else if c.toNat = 125 then 8 else if c.toNat = 44 then 9 else 0 := by
 have e : ∀ d : UInt8, (c = d) = (c.toNat = d.toNat) := fun d => propext UInt8.toNat_inj.symm
 unfold punctK
 simp only [e]
 rfl
theorem tPunct_any (c : UInt8) (w : World) : Calls Tryz.prog 99 #[.int .u8 c.toNat] w fun e w' => e = .returned (.int .i64 (punctK c : Nat)) ∧ w = w' := by
 rw [punctK_is]
 have hc := c.toNat_lt
 generalize c.toNat = n at *
 obtain ⟨K, hK⟩ : ∃ K : Nat, Hid ((if n = 40 then 5 else if n = 41 then 6 else if n = 123 then 7 else if n = 125 then 8 else if n = 44 then 9 else 0) = K) := ⟨_, Lib.hid rfl⟩
 rw [hK.out]
 go_enter Tryz.func99, Tryz.ntmps99
 go_wp2_with fail
 all_goals go_ret
 all_goals refine ⟨?_, rfl⟩
 all_goals (rw [← hK.out]; simp only [beq_iff_eq, beq_eq_false_iff_ne] at *; first | (rw [if_pos (by omega)] <;> rfl) | (rw [if_neg (by omega), if_pos (by omega)] <;> rfl) | (rw [if_neg (by omega), if_neg (by omega), if_pos (by omega)] <;> rfl) | (rw [if_neg (by omega), if_neg (by omega), if_neg (by omega), if_pos (by omega)] <;> rfl) | (rw [if_neg (by omega), if_neg (by omega), if_neg (by omega), if_neg (by omega), if_pos (by omega)] <;> rfl) | (rw [if_neg (by omega), if_neg (by omega), if_neg (by omega), if_neg (by omega), if_neg (by omega)] <;> rfl))
theorem rPunct_any (c : UInt8) (w : World) : Calls Tryz.prog 58 #[.int .u8 c.toNat] w fun e w' => e = .returned (.int .i64 (punctK c : Nat)) ∧ w = w' := by
 rw [punctK_is]
 have hc := c.toNat_lt
 generalize c.toNat = n at *
 obtain ⟨K, hK⟩ : ∃ K : Nat, Hid ((if n = 40 then 5 else if n = 41 then 6 else if n = 123 then 7 else if n = 125 then 8 else if n = 44 then 9 else 0) = K) := ⟨_, Lib.hid rfl⟩
 rw [hK.out]
 go_enter Tryz.func58, Tryz.ntmps58
 go_wp2_with fail
 all_goals go_ret
 all_goals refine ⟨?_, rfl⟩
 all_goals (rw [← hK.out]; simp only [beq_iff_eq, beq_eq_false_iff_ne] at *; first | (rw [if_pos (by omega)] <;> rfl) | (rw [if_neg (by omega), if_pos (by omega)] <;> rfl) | (rw [if_neg (by omega), if_neg (by omega), if_pos (by omega)] <;> rfl) | (rw [if_neg (by omega), if_neg (by omega), if_neg (by omega), if_pos (by omega)] <;> rfl) | (rw [if_neg (by omega), if_neg (by omega), if_neg (by omega), if_neg (by omega), if_pos (by omega)] <;> rfl) | (rw [if_neg (by omega), if_neg (by omega), if_neg (by omega), if_neg (by omega), if_neg (by omega)] <;> rfl))
end
end Go.Proofs.YtnicnfchkdmieaaGreatDoor
