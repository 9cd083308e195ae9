/- Sf -/
import Derived.Test.YtnicnfchkdmieaaGreatDoorZSe
set_option linter.unusedVariables false
set_option linter.unusedSimpArgs false
namespace Go.Proofs.YtnicnfchkdmieaaGreatDoor
open Go.RowKit
attribute [local go_sem] ByteArray.mk_append_mk bs_get bs_cut bs_end
theorem single_any (root : Bool) (up : Int) (a : Option Addr) (n c : Nat) (w : World) (hn : n ≤ 1000000) : Calls Tryz.prog 120 #[.agg #[.bool root, .int .i64 up, .slice a n c]] w fun e w' => e = .returned (.bool (!root && (up == 0) && ((n : Int) == 1))) ∧ Below w.heap.size w w' := by
 have HB : Hid (∀ o, Below w.heap.size w (w.alloc o)) := Lib.hid (fun o => (Below.refl _ _).alloc (Nat.le_refl _) _)
 obtain ⟨b0, b1, b2⟩ := cells3 (heap_alloc_new w (.cells #[.bool root, .int .i64 up, .slice a n c] 144))
 go_enter Tryz.func120, Tryz.ntmps120
 go_wp2_with fail
 all_goals
  go_ret
  exact ⟨by simp [*], HB.out _⟩
theorem varW_app (d : List UInt8) (c : UInt8) : varW (d ++ [c]) = if d = [76, 111, 99, 97, 108] ∧ 48 ≤ c.toNat ∧ c.toNat < 56 then some (6, c.toNat - 48)
 else if d = [65, 114, 103] ∧ 48 ≤ c.toNat ∧ c.toNat < 55 then some (7, c.toNat - 48) else none := by
 unfold varW
 simp
def varP : Option (Int × Nat) → Int × Int × Bool
 | some (a, b) => (a, b, true)
 | none => (0, 0, false)
theorem u64_digit (c : UInt8) : (IntKind.u64.wrap ((c.toNat : Int) - 48) : Int) = if 48 ≤ c.toNat then ((c.toNat - 48 : Nat) : Int) else (c.toNat : Int) - 48 + 18446744073709551616 := by
 have := c.toNat_lt
 rw [IntKind.wrap_u64]
 split <;> omega
theorem variable_any (d : List UInt8) (c : UInt8) (w : World) (hd : d.length ≤ 1000000) : Calls Tryz.prog 131 #[.string ⟨(d ++ [c]).toArray⟩] w fun e w' => e = .returned (.tuple #[.int .i64 (varP (varW (d ++ [c]))).1, .int .u64 (varP (varW (d ++ [c]))).2.1, .bool (varP (varW (d ++ [c]))).2.2]) ∧ w = w' := by
 obtain ⟨X, hX⟩ : ∃ X, Hid (varW (d ++ [c]) = X) := ⟨_, Lib.hid rfl⟩
 rw [hX.out]
 rw [varW_app] at hX
 obtain ⟨S, hS⟩ : ∃ S, d ++ [c] = S := ⟨_, rfl⟩
 have hl : S.length = d.length + 1 := by rw [← hS]; simp
 have hg : ∀ h : d.length < S.length, S[d.length] = c := by intro h; subst hS; simp
 have ht : S.take d.length = d := by rw [← hS]; simp
 obtain ⟨k, hk⟩ : ∃ k : Int, Hid (IntKind.u64.wrap ((c.toNat : Int) - 48) = k) := ⟨_, Lib.hid rfl⟩
 rw [hS]
 go_enter Tryz.func131, Tryz.ntmps131
 go_upto_region 3 with fail
 have hkk : IntKind.u64.wrap (IntKind.u64.wrap (c.toNat : Int) - 48) = k := by
  have := c.toNat_lt
  rw [show IntKind.u64.wrap (c.toNat : Int) = (c.toNat : Int) by rw [IntKind.wrap_u64]; omega]
  exact hk.out
 rw [hkk]
 have hkv : (48 ≤ c.toNat → k = ((c.toNat - 48 : Nat) : Int)) ∧ (¬ 48 ≤ c.toNat → 1000 < k) := by
  have := c.toNat_lt
  rw [← hk.out, u64_digit]
  constructor
  ·intro h; rw [if_pos h]
  ·intro h; rw [if_neg h]; omega
 have HKV := Lib.hid hkv
 have hle : d.length ≤ S.length := by omega
 clear hkk hk hkv hS hl hg
 by_cases hL : d = [76, 111, 99, 97, 108]
 ·have eL : (d == [76, 111, 99, 97, 108]) = true := by rw [hL]; rfl
  by_cases h8 : k < 8
  ·have HX : Hid (varP X = (6, k, true)) := Lib.hid (by
    have h48 : 48 ≤ c.toNat := by
     rcases Nat.lt_or_ge c.toNat 48 with h | h
     ·have := HKV.out.2 (by omega); omega
     ·exact h
    have := HKV.out.1 h48
    rw [← hX.out, if_pos ⟨hL, h48, by omega⟩, this]; rfl)
   clear hL HKV hX
   go_wp2_with fail
   go_ret3
   exact ⟨by rw [HX.out]; rfl, rfl⟩
  ·have HX : Hid (varP X = (0, 0, false)) := Lib.hid (by
    have h48 : ¬ (48 ≤ c.toNat ∧ c.toNat < 56) := by
     rintro ⟨h, h2⟩
     have := HKV.out.1 h; omega
    rw [← hX.out, if_neg (fun h => h48 h.2), if_neg (by rw [hL]; intro h; exact absurd h.1 (by decide))]; rfl)
   have eA : (d == [65, 114, 103]) = false := by rw [hL]; rfl
   clear hL HKV hX
   go_wp2_with fail
   go_ret3
   exact ⟨by rw [HX.out]; rfl, rfl⟩
 ·have eL : (d == [76, 111, 99, 97, 108]) = false := beq_eq_false_iff_ne.2 hL
  by_cases hA : d = [65, 114, 103]
  ·have eA : (d == [65, 114, 103]) = true := by rw [hA]; rfl
   by_cases h8 : k < 7
   ·have HX : Hid (varP X = (7, k, true)) := Lib.hid (by
     have h48 : 48 ≤ c.toNat := by
      rcases Nat.lt_or_ge c.toNat 48 with h | h
      ·have := HKV.out.2 (by omega); omega
      ·exact h
     have := HKV.out.1 h48
     rw [← hX.out, if_neg (fun h => hL h.1), if_pos ⟨hA, h48, by omega⟩, this]; rfl)
    clear hL hA HKV hX
    go_wp2_with fail
    go_ret3
    exact ⟨by rw [HX.out]; rfl, rfl⟩
   ·have HX : Hid (varP X = (0, 0, false)) := Lib.hid (by
     have h48 : ¬ (48 ≤ c.toNat ∧ c.toNat < 55) := by
      rintro ⟨h, h2⟩
      have := HKV.out.1 h; omega
     rw [← hX.out, if_neg (fun h => hL h.1), if_neg (fun h => h48 h.2)]; rfl)
    clear hL hA HKV hX
    go_wp2_with fail
    go_ret3
    exact ⟨by rw [HX.out]; rfl, rfl⟩
  ·have eA : (d == [65, 114, 103]) = false := beq_eq_false_iff_ne.2 hA
   have HX : Hid (varP X = (0, 0, false)) := Lib.hid (by rw [← hX.out, if_neg (fun h => hL h.1), if_neg (fun h => hA h.1)]; rfl)
   clear hL hA HKV hX
   go_wp2_with fail
   go_ret3
   exact ⟨by rw [HX.out]; rfl, rfl⟩
theorem findW_drop (s : List UInt8) (T : List (List UInt8 × List UInt8)) (j i : Nat) (h : j < T.length) : findW s (T.drop j) i = if T[j].1 = s then some i else findW s (T.drop (j + 1)) (i + 1) := by
 rw [List.drop_eq_getElem_cons h, findW]
set_option maxHeartbeats 2000000 in
theorem operator_any (s : List UInt8) (m : Int) (w : World) (hm : SynG m w) (hs : s.length ≤ 1000000) : Calls Tryz.prog 132 #[.string ⟨s.toArray⟩] w fun e w' => e = .returned (.int .i64 (opW s)) ∧ w = w' := by
 obtain ⟨X, hX⟩ : ∃ X, Hid (opW s = X) := ⟨_, Lib.hid rfl⟩
 rw [hX.out]
 have HG := Lib.hid hm
 clear hm
 go_enter Tryz.func132, Tryz.ntmps132
 go_wp2_with fail
 go_loopw [6] (fun i wr => ∃ j : Nat, i = .int .i64 j ∧ j ≤ 29 ∧ Hid (findW s (exprT.drop j) (60 + j) = findW s exprT 60) ∧ w = wr) (fun i _ => 29 - (intOf i).toNat)
 case atStart => exact ⟨0, rfl, by omega, Lib.hid rfl, rfl⟩
 case round =>
  obtain ⟨j, rfl, hj, HJ, rfl⟩ := hrel
  by_cases hlt : j < 29
  ·have hlt' : (j : Int) < 29 := by omega
   have hT : j < exprT.length := hlt
   obtain ⟨c0, c1⟩ := (HG.out).2.1 j hT
   have HD := Lib.hid (findW_drop s exprT j (60 + j) hT)
   obtain ⟨x, hx⟩ : ∃ x, exprT[j] = x := ⟨_, rfl⟩
   rw [hx] at c0 c1 HD
   rw [Nat.mul_comm] at c0 c1
   clear hx hT
   by_cases he : x.1 = s
   ·have eb : (x.1 == s) = true := by rw [he]; exact beq_self_eq_true _
    have HX : Hid (X = (60 + j : Nat)) := Lib.hid (by rw [← hX.out]; unfold opW; rw [← HJ.out, HD.out, if_pos he])
    clear he HJ HD
    go_wp2_with fail
    go_ret
    exact ⟨by rw [HX.out]; simp, rfl⟩
   ·have eb : (x.1 == s) = false := beq_eq_false_iff_ne.2 he
    have HJ2 : Hid (findW s (exprT.drop (j + 1)) (60 + (j + 1)) = findW s exprT 60) := Lib.hid (by rw [← HJ.out, HD.out, if_neg he, Nat.add_assoc])
    clear he HJ HD
    go_wp2_with fail
    go_roundw
    case rel => exact ⟨j + 1, by go_num, by omega, HJ2, by trivial⟩
    case measure => simp [intOf]; omega
  ·obtain rfl : j = 29 := by omega
   have HE1 : Hid (findW s exprT 60 = none) := Lib.hid (by rw [← HJ.out]; rfl)
   clear HJ hlt hj
   go_wp2_with fail
   go_loopw [18] (fun i wr => ∃ j : Nat, i = .int .i64 j ∧ j ≤ 13 ∧ Hid (findW s (stmtT.drop j) (30 + j) = findW s stmtT 30) ∧ w = wr) (fun i _ => 13 - (intOf i).toNat)
   case atStart => exact ⟨0, rfl, by omega, Lib.hid rfl, rfl⟩
   case round =>
    obtain ⟨j, rfl, hj, HJ, rfl⟩ := hrel
    by_cases hlt : j < 13
    ·have hlt' : (j : Int) < 13 := by omega
     have hT : j < stmtT.length := hlt
     obtain ⟨c0, c1⟩ := (HG.out).2.2.1 j hT
     have HD := Lib.hid (findW_drop s stmtT j (30 + j) hT)
     obtain ⟨x, hx⟩ : ∃ x, stmtT[j] = x := ⟨_, rfl⟩
     rw [hx] at c0 c1 HD
     rw [Nat.mul_comm] at c0 c1
     clear hx hT
     by_cases he : x.1 = s
     ·have eb : (x.1 == s) = true := by rw [he]; exact beq_self_eq_true _
      have HX : Hid (X = (30 + j : Nat)) := Lib.hid (by rw [← hX.out]; unfold opW; rw [HE1.out]; simp only []; rw [← HJ.out, HD.out, if_pos he])
      clear he HJ HD
      go_wp2_with fail
      go_ret
      exact ⟨by rw [HX.out]; simp, rfl⟩
     ·have eb : (x.1 == s) = false := beq_eq_false_iff_ne.2 he
      have HJ2 : Hid (findW s (stmtT.drop (j + 1)) (30 + (j + 1)) = findW s stmtT 30) := Lib.hid (by rw [← HJ.out, HD.out, if_neg he, Nat.add_assoc])
      clear he HJ HD
      go_wp2_with fail
      go_roundw
      case rel => exact ⟨j + 1, by go_num, by omega, HJ2, by trivial⟩
      case measure => simp [intOf]; omega
    ·obtain rfl : j = 13 := by omega
     have HE2 : Hid (findW s stmtT 30 = none) := Lib.hid (by rw [← HJ.out]; rfl)
     clear HJ hlt hj
     go_wp2_with fail
     go_loopw [30] (fun i wr => ∃ j : Nat, i = .int .i64 j ∧ j ≤ 12 ∧ Hid (findW s (declT.drop j) (10 + j) = findW s declT 10) ∧ w = wr) (fun i _ => 12 - (intOf i).toNat)
     case atStart => exact ⟨0, rfl, by omega, Lib.hid rfl, rfl⟩
     case round =>
      obtain ⟨j, rfl, hj, HJ, rfl⟩ := hrel
      by_cases hlt : j < 12
      ·have hlt' : (j : Int) < 12 := by omega
       have hT : j < declT.length := hlt
       obtain ⟨c0, c1⟩ := (HG.out).2.2.2 j hT
       have HD := Lib.hid (findW_drop s declT j (10 + j) hT)
       obtain ⟨x, hx⟩ : ∃ x, declT[j] = x := ⟨_, rfl⟩
       rw [hx] at c0 c1 HD
       rw [Nat.mul_comm] at c0 c1
       clear hx hT
       by_cases he : x.1 = s
       ·have eb : (x.1 == s) = true := by rw [he]; exact beq_self_eq_true _
        have HX : Hid (X = (10 + j : Nat)) := Lib.hid (by rw [← hX.out]; unfold opW; rw [HE1.out]; simp only []; rw [HE2.out]; simp only []; rw [← HJ.out, HD.out, if_pos he])
        clear he HJ HD
        go_wp2_with fail
        go_ret
        exact ⟨by rw [HX.out]; simp, rfl⟩
       ·have eb : (x.1 == s) = false := beq_eq_false_iff_ne.2 he
        have HJ2 : Hid (findW s (declT.drop (j + 1)) (10 + (j + 1)) = findW s declT 10) := Lib.hid (by rw [← HJ.out, HD.out, if_neg he, Nat.add_assoc])
        clear he HJ HD
        go_wp2_with fail
        go_roundw
        case rel => exact ⟨j + 1, by go_num, by omega, HJ2, by trivial⟩
        case measure => simp [intOf]; omega
      ·obtain rfl : j = 12 := by omega
       have HE3 : Hid (findW s declT 10 = none) := Lib.hid (by rw [← HJ.out]; rfl)
       clear HJ hlt hj
       by_cases hb : s = [66, 117, 102, 102, 101, 114]
       ·have eb : (s == [66, 117, 102, 102, 101, 114]) = true := by rw [hb]; rfl
        have HX : Hid (X = 50) := Lib.hid (by rw [← hX.out]; unfold opW; rw [HE1.out]; simp only []; rw [HE2.out]; simp only []; rw [HE3.out]; simp only []; rw [if_pos hb])
        clear hb
        go_wp2_with fail
        go_ret
        exact ⟨by rw [HX.out]; rfl, rfl⟩
       ·have eb : (s == [66, 117, 102, 102, 101, 114]) = false := beq_eq_false_iff_ne.2 hb
        by_cases hp : s = [80, 97, 99, 107, 97, 103, 101]
        ·have ep : (s == [80, 97, 99, 107, 97, 103, 101]) = true := by rw [hp]; rfl
         have HX : Hid (X = 51) := Lib.hid (by rw [← hX.out]; unfold opW; rw [HE1.out]; simp only []; rw [HE2.out]; simp only []; rw [HE3.out]; simp only []; rw [if_neg hb, if_pos hp])
         clear hb hp
         go_wp2_with fail
         go_ret
         exact ⟨by rw [HX.out]; rfl, rfl⟩
        ·have ep : (s == [80, 97, 99, 107, 97, 103, 101]) = false := beq_eq_false_iff_ne.2 hp
         have HX : Hid (X = 0) := Lib.hid (by rw [← hX.out]; unfold opW; rw [HE1.out]; simp only []; rw [HE2.out]; simp only []; rw [HE3.out]; simp only []; rw [if_neg hb, if_neg hp])
         clear hb hp
         go_wp2_with fail
         go_ret
         exact ⟨by rw [HX.out]; rfl, rfl⟩
def formV (x : List UInt8 × List UInt8) : Value := .agg #[.string ⟨x.1.toArray⟩, .string ⟨x.2.toArray⟩]
theorem ret_form (tmps : Array Value) (w : World) (b : Nat) (c0 c1 : Value) (h2 : tmps.getD 2 undef = .pointer (some ⟨b, 0, none⟩)) (hb : w.heap[b]? = some (.cells #[c0, c1] 119 (0, 0))) :
 (results Tryz.f81 tmps).run Tryz.prog w = .ok (.agg #[c0, c1]) w := by
 have e0 : w.cell? ⟨b, 0, none⟩ = some c0 := by rw [cell_of_row w b 0 _ _ (0, 0) hb]; rfl
 have e1 : w.cell? ⟨b, 1, none⟩ = some c1 := by rw [cell_of_row w b 1 _ _ (0, 0) hb]; rfl
 have h2' : tmps[2]?.getD undef = .pointer (some ⟨b, 0, none⟩) := by rw [← h2]; simp
 simp [results]
 go_simp
set_option maxRecDepth 100000 in
theorem form_decl (op : Int) (w : World) (m : Int) (hm : SynG m w) (h1 : 10 ≤ op) (h2 : op ≤ 21) : Calls Tryz.prog 81 #[.int .i64 op] w fun e w' => e = .returned (formV (formP op)) ∧ Below w.heap.size w w' := by
 have hx : formP op = declT.getD (op - 10).toNat ([], []) := by unfold formP; rw [if_pos ⟨h1, h2⟩]
 have hj : (op - 10).toNat < declT.length := by show (op - 10).toNat < 12; omega
 obtain ⟨c0, c1⟩ := hm.2.2.2 _ hj
 rw [hx, show declT.getD (op - 10).toNat ([], []) = declT[(op - 10).toNat] by simp [List.getD, hj]]
 obtain ⟨x, hxx⟩ : ∃ x, declT[(op - 10).toNat] = x := ⟨_, rfl⟩
 rw [hxx] at c0 c1 ⊢
 obtain ⟨j, hj2⟩ : ∃ j : Int, op - 10 = j := ⟨_, rfl⟩
 have hj0 : 0 ≤ j := by omega
 have hj1 : j < 12 := by omega
 rw [hj2, Nat.mul_comm] at c0 c1
 have d0 := cell_old c0 (.cells #[.string ⟨#[]⟩, .string ⟨#[]⟩] 119)
 have d1 := cell_old c1 (.cells #[.string ⟨#[]⟩, .string ⟨#[]⟩] 119)
 have HB : Hid (∀ o, Below w.heap.size w (w.alloc o)) := Lib.hid (fun o => (Below.refl _ _).alloc (Nat.le_refl _) o)
 clear hx hj hxx hm c0 c1
 unfold formV
 obtain ⟨x1, x2⟩ := x
 simp only at d0 d1 ⊢
 go_enter Tryz.func81, Tryz.ntmps81
 go_wp2_with fail
 exact bodyPost_ret (ret_form _ _ _ _ _ rfl (heap_alloc_new w _)) rfl ⟨rfl, HB.out _⟩
set_option maxRecDepth 100000 in
theorem form_stmt (op : Int) (w : World) (m : Int) (hm : SynG m w) (h1 : 30 ≤ op) (h2 : op ≤ 42) : Calls Tryz.prog 81 #[.int .i64 op] w fun e w' => e = .returned (formV (formP op)) ∧ Below w.heap.size w w' := by
 have hx : formP op = stmtT.getD (op - 30).toNat ([], []) := by unfold formP; rw [if_neg (by omega), if_pos ⟨h1, h2⟩]
 have hj : (op - 30).toNat < stmtT.length := by show (op - 30).toNat < 13; omega
 obtain ⟨c0, c1⟩ := hm.2.2.1 _ hj
 rw [hx, show stmtT.getD (op - 30).toNat ([], []) = stmtT[(op - 30).toNat] by simp [List.getD, hj]]
 obtain ⟨x, hxx⟩ : ∃ x, stmtT[(op - 30).toNat] = x := ⟨_, rfl⟩
 rw [hxx] at c0 c1 ⊢
 obtain ⟨j, hj2⟩ : ∃ j : Int, op - 30 = j := ⟨_, rfl⟩
 have hj0 : 0 ≤ j := by omega
 have hj1 : j < 13 := by omega
 rw [hj2, Nat.mul_comm] at c0 c1
 have d0 := cell_old c0 (.cells #[.string ⟨#[]⟩, .string ⟨#[]⟩] 119)
 have d1 := cell_old c1 (.cells #[.string ⟨#[]⟩, .string ⟨#[]⟩] 119)
 have HB : Hid (∀ o, Below w.heap.size w (w.alloc o)) := Lib.hid (fun o => (Below.refl _ _).alloc (Nat.le_refl _) o)
 clear hx hj hxx hm c0 c1
 unfold formV
 obtain ⟨x1, x2⟩ := x
 simp only at d0 d1 ⊢
 go_enter Tryz.func81, Tryz.ntmps81
 go_wp2_with fail
 exact bodyPost_ret (ret_form _ _ _ _ _ rfl (heap_alloc_new w _)) rfl ⟨rfl, HB.out _⟩
set_option maxRecDepth 100000 in
theorem form_expr (op : Int) (w : World) (m : Int) (hm : SynG m w) (h1 : 60 ≤ op) (h2 : op ≤ 88) : Calls Tryz.prog 81 #[.int .i64 op] w fun e w' => e = .returned (formV (formP op)) ∧ Below w.heap.size w w' := by
 have hx : formP op = exprT.getD (op - 60).toNat ([], []) := by unfold formP; rw [if_neg (by omega), if_neg (by omega), if_pos ⟨h1, h2⟩]
 have hj : (op - 60).toNat < exprT.length := by show (op - 60).toNat < 29; omega
 obtain ⟨c0, c1⟩ := hm.2.1 _ hj
 rw [hx, show exprT.getD (op - 60).toNat ([], []) = exprT[(op - 60).toNat] by simp [List.getD, hj]]
 obtain ⟨x, hxx⟩ : ∃ x, exprT[(op - 60).toNat] = x := ⟨_, rfl⟩
 rw [hxx] at c0 c1 ⊢
 obtain ⟨j, hj2⟩ : ∃ j : Int, op - 60 = j := ⟨_, rfl⟩
 have hj0 : 0 ≤ j := by omega
 have hj1 : j < 29 := by omega
 rw [hj2, Nat.mul_comm] at c0 c1
 have d0 := cell_old c0 (.cells #[.string ⟨#[]⟩, .string ⟨#[]⟩] 119)
 have d1 := cell_old c1 (.cells #[.string ⟨#[]⟩, .string ⟨#[]⟩] 119)
 have HB : Hid (∀ o, Below w.heap.size w (w.alloc o)) := Lib.hid (fun o => (Below.refl _ _).alloc (Nat.le_refl _) o)
 clear hx hj hxx hm c0 c1
 unfold formV
 obtain ⟨x1, x2⟩ := x
 simp only at d0 d1 ⊢
 go_enter Tryz.func81, Tryz.ntmps81
 go_wp2_with fail
 exact bodyPost_ret (ret_form _ _ _ _ _ rfl (heap_alloc_new w _)) rfl ⟨rfl, HB.out _⟩
set_option maxRecDepth 100000 in
theorem form_buf (w : World) : Calls Tryz.prog 81 #[.int .i64 50] w fun e w' => e = .returned (formV (formP 50)) ∧ Below w.heap.size w w' := by
 rw [show formP 50 = ([66, 117, 102, 102, 101, 114], [105, 73]) from rfl]
 have HB : Hid (∀ o, Below w.heap.size w (w.alloc o)) := Lib.hid (fun o => (Below.refl _ _).alloc (Nat.le_refl _) o)
 unfold formV
 go_enter Tryz.func81, Tryz.ntmps81
 go_wp2_with fail
 exact bodyPost_ret (ret_form _ _ _ _ _ rfl (heap_alloc_new w _)) rfl ⟨rfl, HB.out _⟩
set_option maxRecDepth 100000 in
theorem form_pack (w : World) : Calls Tryz.prog 81 #[.int .i64 51] w fun e w' => e = .returned (formV (formP 51)) ∧ Below w.heap.size w w' := by
 rw [show formP 51 = ([80, 97, 99, 107, 97, 103, 101], [105, 80]) from rfl]
 have HB : Hid (∀ o, Below w.heap.size w (w.alloc o)) := Lib.hid (fun o => (Below.refl _ _).alloc (Nat.le_refl _) o)
 unfold formV
 go_enter Tryz.func81, Tryz.ntmps81
 go_wp2_with fail
 exact bodyPost_ret (ret_form _ _ _ _ _ rfl (heap_alloc_new w _)) rfl ⟨rfl, HB.out _⟩
set_option maxRecDepth 100000 in
theorem form_none (op : Int) (w : World) (h1 : ¬ (10 ≤ op ∧ op ≤ 21)) (h2 : ¬ (30 ≤ op ∧ op ≤ 42)) (h3 : ¬ (60 ≤ op ∧ op ≤ 88)) (h4 : op ≠ 50) (h5 : op ≠ 51) : Calls Tryz.prog 81 #[.int .i64 op] w fun e w' => e = .returned (formV (formP op)) ∧ Below w.heap.size w w' := by
 rw [show formP op = ([], []) by unfold formP; rw [if_neg h1, if_neg h2, if_neg h3, if_neg h4, if_neg h5]]
 have HB : Hid (∀ o, Below w.heap.size w (w.alloc o)) := Lib.hid (fun o => (Below.refl _ _).alloc (Nat.le_refl _) o)
 have e4 : (op == 50) = false := beq_eq_false_iff_ne.2 h4
 have e5 : (op == 51) = false := beq_eq_false_iff_ne.2 h5
 have g1 : 10 ≤ op → ¬ op ≤ 21 := fun h h' => h1 ⟨h, h'⟩
 have g2 : 30 ≤ op → ¬ op ≤ 42 := fun h h' => h2 ⟨h, h'⟩
 have g3 : 60 ≤ op → ¬ op ≤ 88 := fun h h' => h3 ⟨h, h'⟩
 have HG := Lib.hid (And.intro g1 (And.intro g2 g3))
 clear h1 h2 h3 h4 h5 g1 g2 g3
 unfold formV
 go_enter Tryz.func81, Tryz.ntmps81
 go_wp2_with fail
 all_goals first
  | exact bodyPost_ret (ret_form _ _ _ _ _ rfl (heap_alloc_new w _)) rfl ⟨rfl, HB.out _⟩
  | (exfalso; have h1 := HG.out.1; have h2 := HG.out.2.1; have h3 := HG.out.2.2; omega)
theorem form_any (op : Int) (w : World) (m : Int) (hm : SynG m w) : Calls Tryz.prog 81 #[.int .i64 op] w fun e w' => e = .returned (formV (formP op)) ∧ Below w.heap.size w w' := by
 by_cases h1 : 10 ≤ op ∧ op ≤ 21
 ·exact form_decl op w m hm h1.1 h1.2
 by_cases h2 : 30 ≤ op ∧ op ≤ 42
 ·exact form_stmt op w m hm h2.1 h2.2
 by_cases h3 : 60 ≤ op ∧ op ≤ 88
 ·exact form_expr op w m hm h3.1 h3.2
 by_cases h4 : op = 50
 ·subst h4; exact form_buf w
 by_cases h5 : op = 51
 ·subst h5; exact form_pack w
 exact form_none op w h1 h2 h3 h4 h5
end Go.Proofs.YtnicnfchkdmieaaGreatDoor
