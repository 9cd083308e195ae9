/- Sf Sg -/
import Derived.Test.YtnicnfchkdmieaaGreatDoorXar
set_option linter.unusedVariables false
set_option linter.unusedSimpArgs false
namespace Go.Proofs.YtnicnfchkdmieaaGreatDoor
section
open Go.RowKit
attribute [local go_sem] ByteArray.mk_append_mk bs_get bs_cut bs_end
theorem single_any (root : Bool) (up : Int) (a : Option Addr) (n c : Nat) (w : World) (hn : n ≤ 1000000) : Calls Tryz.prog 120 #[.agg #[.bool root,.int .i64 up,.slice a n c]] w fun e w' => e = .returned (.bool (!root && (up == 0) && ((n : Int) == 1))) ∧ Below w.heap.size w w':=by
 have HB : Hid (∀ o,Below w.heap.size w (w.alloc o)):=Lib.hid (fun o => (Below.refl _ _).alloc (Nat.le_refl _) _)
 obtain ⟨b0,b1,b2⟩:=cells3 (heap_alloc_new w (.cells #[.bool root,.int .i64 up,.slice a n c] 144))
 go_enter Tryz.func120,Tryz.ntmps120
 go_wp2_with fail
 all_goals
  go_ret
  exact ⟨by simp [*],HB.out _⟩
theorem varW_app (d : List UInt8) (c : UInt8) : varW (d ++ [c]) = if d = [76,111,99,97,108] ∧ 48 ≤ c.toNat ∧ c.toNat < 56 then some (6,c.toNat - 48)
  else if d = [65,114,103] ∧ 48 ≤ c.toNat ∧ c.toNat < 55 then some (7,c.toNat - 48) else none:=by
 unfold varW
 simp
def varP : Option (Int × Nat) → Int × Int × Bool
 | some (a,b) => (a,b,true)
 | none => (0,0,false)
theorem u64_digit (c : UInt8) : (IntKind.u64.wrap ((c.toNat : Int) - 48) : Int) = if 48 ≤ c.toNat then ((c.toNat - 48 : Nat) : Int) else (c.toNat : Int) - 48 + 18446744073709551616:=by
 have:=c.toNat_lt
 rw [IntKind.wrap_u64]
 split <;> omega
theorem variable_any (d : List UInt8) (c : UInt8) (w : World) (hd : d.length ≤ 1000000) : Calls Tryz.prog 131 #[.string ⟨(d ++ [c]).toArray⟩] w fun e w' => e = .returned (.tuple #[.int .i64 (varP (varW (d ++ [c]))).1,.int .u64 (varP (varW (d ++ [c]))).2.1,.bool (varP (varW (d ++ [c]))).2.2]) ∧ w = w':=by
 obtain ⟨X,hX⟩ : ∃ X,Hid (varW (d ++ [c]) = X):=⟨_,Lib.hid rfl⟩
 rw [hX.out]
 rw [varW_app] at hX
 obtain ⟨S,hS⟩ : ∃ S,d ++ [c] = S:=⟨_,rfl⟩
 have hl : S.length = d.length + 1:=by rw [← hS]; simp
 have hg : ∀ h : d.length < S.length,S[d.length] = c:=by intro h; subst hS; simp
 have ht : S.take d.length = d:=by rw [← hS]; simp
 obtain ⟨k,hk⟩ : ∃ k : Int,Hid (IntKind.u64.wrap ((c.toNat : Int) - 48) = k):=⟨_,Lib.hid rfl⟩
 rw [hS]
 go_enter Tryz.func131,Tryz.ntmps131
 go_upto_region 3 with fail
 have hkk : IntKind.u64.wrap (IntKind.u64.wrap (c.toNat : Int) - 48) = k:=by
  have:=c.toNat_lt
  rw [show IntKind.u64.wrap (c.toNat : Int) = (c.toNat : Int) by rw [IntKind.wrap_u64]; omega]
  exact hk.out
 rw [hkk]
 have hkv : (48 ≤ c.toNat → k = ((c.toNat - 48 : Nat) : Int)) ∧ (¬ 48 ≤ c.toNat → 1000 < k):=by
  have:=c.toNat_lt
  rw [← hk.out,u64_digit]
  constructor
  ·intro h; rw [if_pos h]
  ·intro h; rw [if_neg h]; omega
 have HKV:=Lib.hid hkv
 have hle : d.length ≤ S.length:=by omega
 clear hkk hk hkv hS hl hg
 by_cases hL : d = [76,111,99,97,108]
 ·have eL : (d == [76,111,99,97,108]) = true:=by rw [hL]; rfl
  by_cases h8 : k < 8
  ·have HX : Hid (varP X = (6,k,true)):=Lib.hid (by
    have h48 : 48 ≤ c.toNat:=by
     rcases Nat.lt_or_ge c.toNat 48 with h | h
     ·have:=HKV.out.2 (by omega); omega
     ·exact h
    have:=HKV.out.1 h48
    rw [← hX.out,if_pos ⟨hL,h48,by omega⟩,this] <;> rfl)
   clear hL HKV hX
   go_wp2_with fail
   go_ret3
   exact ⟨by rw [HX.out]; rfl,rfl⟩
  ·have HX : Hid (varP X = (0,0,false)):=Lib.hid (by
    have h48 : ¬ (48 ≤ c.toNat ∧ c.toNat < 56):=by
     rintro ⟨h,h2⟩
     have:=HKV.out.1 h; omega
    rw [← hX.out,if_neg (fun h => h48 h.2),if_neg (by rw [hL]; intro h; exact absurd h.1 (by decide))] <;> rfl)
   have eA : (d == [65,114,103]) = false:=by rw [hL]; rfl
   clear hL HKV hX
   go_wp2_with fail
   go_ret3
   exact ⟨by rw [HX.out]; rfl,rfl⟩
 ·have eL : (d == [76,111,99,97,108]) = false:=beq_eq_false_iff_ne.2 hL
  by_cases hA : d = [65,114,103]
  ·have eA : (d == [65,114,103]) = true:=by rw [hA]; rfl
   by_cases h8 : k < 7
   ·have HX : Hid (varP X = (7,k,true)):=Lib.hid (by
     have h48 : 48 ≤ c.toNat:=by
      rcases Nat.lt_or_ge c.toNat 48 with h | h
      ·have:=HKV.out.2 (by omega); omega
      ·exact h
     have:=HKV.out.1 h48
     rw [← hX.out,if_neg (fun h => hL h.1),if_pos ⟨hA,h48,by omega⟩,this] <;> rfl)
    clear hL hA HKV hX
    go_wp2_with fail
    go_ret3
    exact ⟨by rw [HX.out]; rfl,rfl⟩
   ·have HX : Hid (varP X = (0,0,false)):=Lib.hid (by
     have h48 : ¬ (48 ≤ c.toNat ∧ c.toNat < 55):=by
      rintro ⟨h,h2⟩
      have:=HKV.out.1 h; omega
     rw [← hX.out,if_neg (fun h => hL h.1),if_neg (fun h => h48 h.2)] <;> rfl)
    clear hL hA HKV hX
    go_wp2_with fail
    go_ret3
    exact ⟨by rw [HX.out]; rfl,rfl⟩
  ·have eA : (d == [65,114,103]) = false:=beq_eq_false_iff_ne.2 hA
   have HX : Hid (varP X = (0,0,false)):=Lib.hid (by rw [← hX.out,if_neg (fun h => hL h.1),if_neg (fun h => hA h.1)] <;> rfl)
   clear hL hA HKV hX
   go_wp2_with fail
   go_ret3
   exact ⟨by rw [HX.out]; rfl,rfl⟩
theorem findW_drop (s : List UInt8) (T : List (List UInt8 × List UInt8)) (j i : Nat) (h : j < T.length) : findW s (T.drop j) i = if T[j].1 = s then some i else findW s (T.drop (j + 1)) (i + 1):=by
 rw [List.drop_eq_getElem_cons h,findW]
set_option maxHeartbeats 2000000 in
theorem operator_any (s : List UInt8) (m : Int) (w : World) (hm : SynG m w) (hs : s.length ≤ 1000000) : Calls Tryz.prog 132 #[.string ⟨s.toArray⟩] w fun e w' => e = .returned (.int .i64 (opW s)) ∧ w = w':=by
 obtain ⟨X,hX⟩ : ∃ X,Hid (opW s = X):=⟨_,Lib.hid rfl⟩
 rw [hX.out]
 have HG:=Lib.hid hm
 clear hm
 go_enter Tryz.func132,Tryz.ntmps132
 go_wp2_with fail
 go_loopw [6] (fun i wr => ∃ j : Nat,i = .int .i64 j ∧ j ≤ 29 ∧ Hid (findW s (exprT.drop j) (60 + j) = findW s exprT 60) ∧ w = wr) (fun i _ => 29 - (intOf i).toNat)
 case atStart => exact ⟨0,rfl,by omega,Lib.hid rfl,rfl⟩
 case round =>
  obtain ⟨j,rfl,hj,HJ,rfl⟩:=hrel
  by_cases hlt : j < 29
  ·have hlt' : (j : Int) < 29:=by omega
   have hT : j < exprT.length:=hlt
   obtain ⟨c0,c1⟩:=(HG.out).2.1 j hT
   have HD:=Lib.hid (findW_drop s exprT j (60 + j) hT)
   obtain ⟨x,hx⟩ : ∃ x,exprT[j] = x:=⟨_,rfl⟩
   rw [hx] at c0 c1 HD
   rw [Nat.mul_comm] at c0 c1
   clear hx hT
   by_cases he : x.1 = s
   ·have eb : (x.1 == s) = true:=by rw [he]; exact beq_self_eq_true _
    have HX : Hid (X = (60 + j : Nat)):=Lib.hid (by rw [← hX.out]; unfold opW; rw [← HJ.out,HD.out,if_pos he])
    clear he HJ HD
    go_wp2_with fail
    go_ret
    exact ⟨by rw [HX.out]; simp,rfl⟩
   ·have eb : (x.1 == s) = false:=beq_eq_false_iff_ne.2 he
    have HJ2 : Hid (findW s (exprT.drop (j + 1)) (60 + (j + 1)) = findW s exprT 60):=Lib.hid (by rw [← HJ.out,HD.out,if_neg he,Nat.add_assoc])
    clear he HJ HD
    go_wp2_with fail
    go_roundw
    case rel => exact ⟨j + 1,by go_num,by omega,HJ2,by trivial⟩
    case measure => simp [intOf]; omega
  ·obtain rfl : j = 29:=by omega
   have HE1 : Hid (findW s exprT 60 = none):=Lib.hid (by rw [← HJ.out] <;> rfl)
   clear HJ hlt hj
   go_wp2_with fail
   go_loopw [18] (fun i wr => ∃ j : Nat,i = .int .i64 j ∧ j ≤ 13 ∧ Hid (findW s (stmtT.drop j) (30 + j) = findW s stmtT 30) ∧ w = wr) (fun i _ => 13 - (intOf i).toNat)
   case atStart => exact ⟨0,rfl,by omega,Lib.hid rfl,rfl⟩
   case round =>
    obtain ⟨j,rfl,hj,HJ,rfl⟩:=hrel
    by_cases hlt : j < 13
    ·have hlt' : (j : Int) < 13:=by omega
     have hT : j < stmtT.length:=hlt
     obtain ⟨c0,c1⟩:=(HG.out).2.2.1 j hT
     have HD:=Lib.hid (findW_drop s stmtT j (30 + j) hT)
     obtain ⟨x,hx⟩ : ∃ x,stmtT[j] = x:=⟨_,rfl⟩
     rw [hx] at c0 c1 HD
     rw [Nat.mul_comm] at c0 c1
     clear hx hT
     by_cases he : x.1 = s
     ·have eb : (x.1 == s) = true:=by rw [he]; exact beq_self_eq_true _
      have HX : Hid (X = (30 + j : Nat)):=Lib.hid (by rw [← hX.out]; unfold opW; rw [HE1.out]; simp only []; rw [← HJ.out,HD.out,if_pos he])
      clear he HJ HD
      go_wp2_with fail
      go_ret
      exact ⟨by rw [HX.out]; simp,rfl⟩
     ·have eb : (x.1 == s) = false:=beq_eq_false_iff_ne.2 he
      have HJ2 : Hid (findW s (stmtT.drop (j + 1)) (30 + (j + 1)) = findW s stmtT 30):=Lib.hid (by rw [← HJ.out,HD.out,if_neg he,Nat.add_assoc])
      clear he HJ HD
      go_wp2_with fail
      go_roundw
      case rel => exact ⟨j + 1,by go_num,by omega,HJ2,by trivial⟩
      case measure => simp [intOf]; omega
    ·obtain rfl : j = 13:=by omega
     have HE2 : Hid (findW s stmtT 30 = none):=Lib.hid (by rw [← HJ.out] <;> rfl)
     clear HJ hlt hj
     go_wp2_with fail
     go_loopw [30] (fun i wr => ∃ j : Nat,i = .int .i64 j ∧ j ≤ 12 ∧ Hid (findW s (declT.drop j) (10 + j) = findW s declT 10) ∧ w = wr) (fun i _ => 12 - (intOf i).toNat)
     case atStart => exact ⟨0,rfl,by omega,Lib.hid rfl,rfl⟩
     case round =>
      obtain ⟨j,rfl,hj,HJ,rfl⟩:=hrel
      by_cases hlt : j < 12
      ·have hlt' : (j : Int) < 12:=by omega
       have hT : j < declT.length:=hlt
       obtain ⟨c0,c1⟩:=(HG.out).2.2.2 j hT
       have HD:=Lib.hid (findW_drop s declT j (10 + j) hT)
       obtain ⟨x,hx⟩ : ∃ x,declT[j] = x:=⟨_,rfl⟩
       rw [hx] at c0 c1 HD
       rw [Nat.mul_comm] at c0 c1
       clear hx hT
       by_cases he : x.1 = s
       ·have eb : (x.1 == s) = true:=by rw [he]; exact beq_self_eq_true _
        have HX : Hid (X = (10 + j : Nat)):=Lib.hid (by rw [← hX.out]; unfold opW; rw [HE1.out]; simp only []; rw [HE2.out]; simp only []; rw [← HJ.out,HD.out,if_pos he])
        clear he HJ HD
        go_wp2_with fail
        go_ret
        exact ⟨by rw [HX.out]; simp,rfl⟩
       ·have eb : (x.1 == s) = false:=beq_eq_false_iff_ne.2 he
        have HJ2 : Hid (findW s (declT.drop (j + 1)) (10 + (j + 1)) = findW s declT 10):=Lib.hid (by rw [← HJ.out,HD.out,if_neg he,Nat.add_assoc])
        clear he HJ HD
        go_wp2_with fail
        go_roundw
        case rel => exact ⟨j + 1,by go_num,by omega,HJ2,by trivial⟩
        case measure => simp [intOf]; omega
      ·obtain rfl : j = 12:=by omega
       have HE3 : Hid (findW s declT 10 = none):=Lib.hid (by rw [← HJ.out] <;> rfl)
       clear HJ hlt hj
       by_cases hb : s = [66,117,102,102,101,114]
       ·have eb : (s == [66,117,102,102,101,114]) = true:=by rw [hb]; rfl
        have HX : Hid (X = 50):=Lib.hid (by rw [← hX.out]; unfold opW; rw [HE1.out]; simp only []; rw [HE2.out]; simp only []; rw [HE3.out]; simp only []; rw [if_pos hb])
        clear hb
        go_wp2_with fail
        go_ret
        exact ⟨by rw [HX.out]; rfl,rfl⟩
       ·have eb : (s == [66,117,102,102,101,114]) = false:=beq_eq_false_iff_ne.2 hb
        by_cases hp : s = [80,97,99,107,97,103,101]
        ·have ep : (s == [80,97,99,107,97,103,101]) = true:=by rw [hp]; rfl
         have HX : Hid (X = 51):=Lib.hid (by rw [← hX.out]; unfold opW; rw [HE1.out]; simp only []; rw [HE2.out]; simp only []; rw [HE3.out]; simp only []; rw [if_neg hb,if_pos hp])
         clear hb hp
         go_wp2_with fail
         go_ret
         exact ⟨by rw [HX.out]; rfl,rfl⟩
        ·have ep : (s == [80,97,99,107,97,103,101]) = false:=beq_eq_false_iff_ne.2 hp
         have HX : Hid (X = 0):=Lib.hid (by rw [← hX.out]; unfold opW; rw [HE1.out]; simp only []; rw [HE2.out]; simp only []; rw [HE3.out]; simp only []; rw [if_neg hb,if_neg hp])
         clear hb hp
         go_wp2_with fail
         go_ret
         exact ⟨by rw [HX.out]; rfl,rfl⟩
def formV (x : List UInt8 × List UInt8) : Value:=.agg #[.string ⟨x.1.toArray⟩,.string ⟨x.2.toArray⟩]
theorem ret_form (tmps : Array Value) (w : World) (b : Nat) (c0 c1 : Value) (h2 : tmps.getD 2 undef = .pointer (some ⟨b,0,none⟩)) (hb : w.heap[b]? = some (.cells #[c0,c1] 119 (0,0))) :
  (results Tryz.f81 tmps).run Tryz.prog w = .ok (.agg #[c0,c1]) w:=by
 have e0 : w.cell? ⟨b,0,none⟩ = some c0:=by rw [cell_of_row w b 0 _ _ (0,0) hb]; rfl
 have e1 : w.cell? ⟨b,1,none⟩ = some c1:=by rw [cell_of_row w b 1 _ _ (0,0) hb]; rfl
 have h2' : tmps[2]?.getD undef = .pointer (some ⟨b,0,none⟩):=by rw [← h2]; simp
 simp [results]
 go_simp
set_option maxRecDepth 100000 in
theorem form_decl (op : Int) (w : World) (m : Int) (hm : SynG m w) (h1 : 10 ≤ op) (h2 : op ≤ 21) : Calls Tryz.prog 81 #[.int .i64 op] w fun e w' => e = .returned (formV (formP op)) ∧ Below w.heap.size w w':=by
 have hx : formP op = declT.getD (op - 10).toNat ([],[]):=by unfold formP; rw [if_pos ⟨h1,h2⟩]
 have hj : (op - 10).toNat < declT.length:=by show (op - 10).toNat < 12; omega
 obtain ⟨c0,c1⟩:=hm.2.2.2 _ hj
 rw [hx,show declT.getD (op - 10).toNat ([],[]) = declT[(op - 10).toNat] by simp [List.getD,hj]]
 obtain ⟨x,hxx⟩ : ∃ x,declT[(op - 10).toNat] = x:=⟨_,rfl⟩
 rw [hxx] at c0 c1 ⊢
 obtain ⟨j,hj2⟩ : ∃ j : Int,op - 10 = j:=⟨_,rfl⟩
 have hj0 : 0 ≤ j:=by omega
 have hj1 : j < 12:=by omega
 rw [hj2,Nat.mul_comm] at c0 c1
 have d0:=cell_old c0 (.cells #[.string ⟨#[]⟩,.string ⟨#[]⟩] 119)
 have d1:=cell_old c1 (.cells #[.string ⟨#[]⟩,.string ⟨#[]⟩] 119)
 have HB : Hid (∀ o,Below w.heap.size w (w.alloc o)):=Lib.hid (fun o => (Below.refl _ _).alloc (Nat.le_refl _) o)
 clear hx hj hxx hm c0 c1
 unfold formV
 obtain ⟨x1,x2⟩:=x
 simp only at d0 d1 ⊢
 go_enter Tryz.func81,Tryz.ntmps81
 go_wp2_with fail
 exact bodyPost_ret (ret_form _ _ _ _ _ rfl (heap_alloc_new w _)) rfl ⟨rfl,HB.out _⟩
set_option maxRecDepth 100000 in
theorem form_stmt (op : Int) (w : World) (m : Int) (hm : SynG m w) (h1 : 30 ≤ op) (h2 : op ≤ 42) : Calls Tryz.prog 81 #[.int .i64 op] w fun e w' => e = .returned (formV (formP op)) ∧ Below w.heap.size w w':=by
 have hx : formP op = stmtT.getD (op - 30).toNat ([],[]):=by unfold formP; rw [if_neg (by omega),if_pos ⟨h1,h2⟩]
 have hj : (op - 30).toNat < stmtT.length:=by show (op - 30).toNat < 13; omega
 obtain ⟨c0,c1⟩:=hm.2.2.1 _ hj
 rw [hx,show stmtT.getD (op - 30).toNat ([],[]) = stmtT[(op - 30).toNat] by simp [List.getD,hj]]
 obtain ⟨x,hxx⟩ : ∃ x,stmtT[(op - 30).toNat] = x:=⟨_,rfl⟩
 rw [hxx] at c0 c1 ⊢
 obtain ⟨j,hj2⟩ : ∃ j : Int,op - 30 = j:=⟨_,rfl⟩
 have hj0 : 0 ≤ j:=by omega
 have hj1 : j < 13:=by omega
 rw [hj2,Nat.mul_comm] at c0 c1
 have d0:=cell_old c0 (.cells #[.string ⟨#[]⟩,.string ⟨#[]⟩] 119)
 have d1:=cell_old c1 (.cells #[.string ⟨#[]⟩,.string ⟨#[]⟩] 119)
 have HB : Hid (∀ o,Below w.heap.size w (w.alloc o)):=Lib.hid (fun o => (Below.refl _ _).alloc (Nat.le_refl _) o)
 clear hx hj hxx hm c0 c1
 unfold formV
 obtain ⟨x1,x2⟩:=x
 simp only at d0 d1 ⊢
 go_enter Tryz.func81,Tryz.ntmps81
 go_wp2_with fail
 exact bodyPost_ret (ret_form _ _ _ _ _ rfl (heap_alloc_new w _)) rfl ⟨rfl,HB.out _⟩
set_option maxRecDepth 100000 in
theorem form_expr (op : Int) (w : World) (m : Int) (hm : SynG m w) (h1 : 60 ≤ op) (h2 : op ≤ 88) : Calls Tryz.prog 81 #[.int .i64 op] w fun e w' => e = .returned (formV (formP op)) ∧ Below w.heap.size w w':=by
 have hx : formP op = exprT.getD (op - 60).toNat ([],[]):=by unfold formP; rw [if_neg (by omega),if_neg (by omega),if_pos ⟨h1,h2⟩]
 have hj : (op - 60).toNat < exprT.length:=by show (op - 60).toNat < 29; omega
 obtain ⟨c0,c1⟩:=hm.2.1 _ hj
 rw [hx,show exprT.getD (op - 60).toNat ([],[]) = exprT[(op - 60).toNat] by simp [List.getD,hj]]
 obtain ⟨x,hxx⟩ : ∃ x,exprT[(op - 60).toNat] = x:=⟨_,rfl⟩
 rw [hxx] at c0 c1 ⊢
 obtain ⟨j,hj2⟩ : ∃ j : Int,op - 60 = j:=⟨_,rfl⟩
 have hj0 : 0 ≤ j:=by omega
 have hj1 : j < 29:=by omega
 rw [hj2,Nat.mul_comm] at c0 c1
 have d0:=cell_old c0 (.cells #[.string ⟨#[]⟩,.string ⟨#[]⟩] 119)
 have d1:=cell_old c1 (.cells #[.string ⟨#[]⟩,.string ⟨#[]⟩] 119)
 have HB : Hid (∀ o,Below w.heap.size w (w.alloc o)):=Lib.hid (fun o => (Below.refl _ _).alloc (Nat.le_refl _) o)
 clear hx hj hxx hm c0 c1
 unfold formV
 obtain ⟨x1,x2⟩:=x
 simp only at d0 d1 ⊢
 go_enter Tryz.func81,Tryz.ntmps81
 go_wp2_with fail
 exact bodyPost_ret (ret_form _ _ _ _ _ rfl (heap_alloc_new w _)) rfl ⟨rfl,HB.out _⟩
set_option maxRecDepth 100000 in
theorem form_buf (w : World) : Calls Tryz.prog 81 #[.int .i64 50] w fun e w' => e = .returned (formV (formP 50)) ∧ Below w.heap.size w w':=by
 rw [show formP 50 = ([66,117,102,102,101,114],[105,73]) from rfl]
 have HB : Hid (∀ o,Below w.heap.size w (w.alloc o)):=Lib.hid (fun o => (Below.refl _ _).alloc (Nat.le_refl _) o)
 unfold formV
 go_enter Tryz.func81,Tryz.ntmps81
 go_wp2_with fail
 exact bodyPost_ret (ret_form _ _ _ _ _ rfl (heap_alloc_new w _)) rfl ⟨rfl,HB.out _⟩
set_option maxRecDepth 100000 in
theorem form_pack (w : World) : Calls Tryz.prog 81 #[.int .i64 51] w fun e w' => e = .returned (formV (formP 51)) ∧ Below w.heap.size w w':=by
 rw [show formP 51 = ([80,97,99,107,97,103,101],[105,80]) from rfl]
 have HB : Hid (∀ o,Below w.heap.size w (w.alloc o)):=Lib.hid (fun o => (Below.refl _ _).alloc (Nat.le_refl _) o)
 unfold formV
 go_enter Tryz.func81,Tryz.ntmps81
 go_wp2_with fail
 exact bodyPost_ret (ret_form _ _ _ _ _ rfl (heap_alloc_new w _)) rfl ⟨rfl,HB.out _⟩
set_option maxRecDepth 100000 in
theorem form_none (op : Int) (w : World) (h1 : ¬ (10 ≤ op ∧ op ≤ 21)) (h2 : ¬ (30 ≤ op ∧ op ≤ 42)) (h3 : ¬ (60 ≤ op ∧ op ≤ 88)) (h4 : op ≠ 50) (h5 : op ≠ 51) : Calls Tryz.prog 81 #[.int .i64 op] w fun e w' => e = .returned (formV (formP op)) ∧ Below w.heap.size w w':=by
 rw [show formP op = ([],[]) by unfold formP; rw [if_neg h1,if_neg h2,if_neg h3,if_neg h4,if_neg h5]]
 have HB : Hid (∀ o,Below w.heap.size w (w.alloc o)):=Lib.hid (fun o => (Below.refl _ _).alloc (Nat.le_refl _) o)
 have e4 : (op == 50) = false:=beq_eq_false_iff_ne.2 h4
 have e5 : (op == 51) = false:=beq_eq_false_iff_ne.2 h5
 have g1 : 10 ≤ op → ¬ op ≤ 21:=fun h h' => h1 ⟨h,h'⟩
 have g2 : 30 ≤ op → ¬ op ≤ 42:=fun h h' => h2 ⟨h,h'⟩
 have g3 : 60 ≤ op → ¬ op ≤ 88:=fun h h' => h3 ⟨h,h'⟩
 have HG:=Lib.hid (And.intro g1 (And.intro g2 g3))
 clear h1 h2 h3 h4 h5 g1 g2 g3
 unfold formV
 go_enter Tryz.func81,Tryz.ntmps81
 go_wp2_with fail
 all_goals first
  | exact bodyPost_ret (ret_form _ _ _ _ _ rfl (heap_alloc_new w _)) rfl ⟨rfl,HB.out _⟩
  | (exfalso; have h1:=HG.out.1; have h2:=HG.out.2.1; have h3:=HG.out.2.2; omega)
theorem form_any (op : Int) (w : World) (m : Int) (hm : SynG m w) : Calls Tryz.prog 81 #[.int .i64 op] w fun e w' => e = .returned (formV (formP op)) ∧ Below w.heap.size w w':=by
 by_cases h1 : 10 ≤ op ∧ op ≤ 21
 ·exact form_decl op w m hm h1.1 h1.2
 by_cases h2 : 30 ≤ op ∧ op ≤ 42
 ·exact form_stmt op w m hm h2.1 h2.2
 by_cases h3 : 60 ≤ op ∧ op ≤ 88
 ·exact form_expr op w m hm h3.1 h3.2
 by_cases h4 : op = 50
 ·subst h4; exact form_buf w
 by_cases h5 : op = 51
 ·subst h5; exact form_pack w
 exact form_none op w h1 h2 h3 h4 h5
end
section
open Go.RowKit
attribute [local go_sem] ByteArray.mk_append_mk bs_get bs_cut bs_end
theorem tcI_set (o ns : List Nd) (a n : Int) (s : List UInt8) (p u : Int) : (tcI (o ++ ⟨a,n,s,p⟩ :: ns)).set (o.length * 4 + 3) (.int .i64 u) = tcI (o ++ ⟨a,n,s,u⟩ :: ns):=by
 rw [tcI_app,tcI_app,List.set_append_right _ _ (by rw [tcI_len]; omega),tcI_len,show o.length * 4 + 3 - o.length * 4 = 3 by omega]
 rfl
theorem tcI_kids (o ns : List Nd) (a n : Int) (s : List UInt8) (p : Int) : (tcI (o ++ ⟨a,n,s,p⟩ :: ns))[o.length * 4 + 3]? = some (.int .i64 p):=by
 rw [tcI_app,List.getElem?_append_right (by rw [tcI_len]; omega),tcI_len,show o.length * 4 + 3 - o.length * 4 = 3 by omega]
 rfl
theorem PSt.kids {m E : Int} {B b : Nat} {w : World} {r : List TokI} {o ns : List Nd} {a n : Int} {s : List UInt8} {p : Int} (h : PSt m E B b w r (o ++ ⟨a,n,s,p⟩ :: ns)) :
  ∃ tv bad g c,w.heap[b]? = some (psObj tv E bad (.slice (some ⟨g,0,none⟩) (o ++ ⟨a,n,s,p⟩ :: ns).length c)) ∧ w.cell? ⟨g,o.length * 4 + 3,none⟩ = some (.int .i64 p) ∧ w.frozen? ⟨g,o.length * 4 + 3,none⟩ = false ∧
    ∀ u : Int,PSt m E B b (w.setCell ⟨g,o.length * 4 + 3,none⟩ (.int .i64 u)) r (o ++ ⟨a,n,s,u⟩ :: ns) ∧ Below B w (w.setCell ⟨g,o.length * 4 + 3,none⟩ (.int .i64 u)):=by
 obtain ⟨⟨tv,bad,nv,h1,h2,h3⟩,h4,h5,h6,h7,h8⟩:=h
 have hne:=own_ps h3 h1
 obtain ⟨g,c,hnv,hB⟩ : ∃ g c,nv = .slice (some ⟨g,0,none⟩) (o ++ ⟨a,n,s,p⟩ :: ns).length c ∧ B ≤ g:=by
  rcases h3.2 with ⟨_,h0⟩ | ⟨g,cap,cur,e,hb,_⟩
  ·simp at h0
  ·exact ⟨g,cap,e,hb⟩
 subst hnv
 refine ⟨tv,bad,g,c,h1,?_,World.ownsRow.frozenAt h3 _,fun u => ?_⟩
 ·rw [World.ownsRow.cellAt h3 _ (by simp; omega)]
  exact tcI_kids o ns a n s p
 ·obtain ⟨k1,k2⟩:=World.ownsRow.stored h3 (o.length * 4 + 3) (.int .i64 u)
  rw [tcI_set] at k1
  have hL : (o ++ ⟨a,n,s,p⟩ :: ns).length = (o ++ (⟨a,n,s,u⟩ : Nd) :: ns).length:=by simp
  have hb : Below B w (w.setCell ⟨g,o.length * 4 + 3,none⟩ (.int .i64 u)):=(Below.refl _ _).setCell hB _
  rw [hL] at k1 h1
  refine ⟨⟨⟨tv,bad,_,blk_other h1 _ _ (fun e => hne (by simp [Value.ownBlock,e])),h2.below hb,k1⟩,h4,Nat.le_trans h5 hb.size,h6.below hb h7,h7,h8⟩,hb⟩
def tokLen (w : World) (b : Nat) : Nat:=match w.cell? ⟨b,0,none⟩ with
 | some (.slice _ n _) => n
 | _ => 0
theorem PSt.tokLen {m E : Int} {B b : Nat} {w : World} {r : List TokI} {o : List Nd} (h : PSt m E B b w r o) : tokLen w b = r.length:=by
 obtain ⟨tv,bad,nv,h1,⟨a,cap,rfl,_⟩,h3⟩:=h.ex
 unfold Go.Proofs.YtnicnfchkdmieaaGreatDoor.tokLen
 rw [(cells4 h1).1]
def SubOk (m E : Int) (B b : Nat) (sub : UInt8 → List TokI → PR) (n : Nat) : Prop :=
 ∀ (k : UInt8) (r : List TokI) (o : List Nd) (w : World),PSt m E B b w r o → r.length ≤ n → o.length + r.length ≤ 100000 →
   Calls Tryz.prog 47 #[.pointer (some ⟨b,0,none⟩),.int .u8 k.toNat] w (SynPost m E B b w o (sub k r))
set_option maxRecDepth 100000 in
set_option maxHeartbeats 4000000 in
theorem call_any (m E : Int) (B b : Nat) (sub : UInt8 → List TokI → PR) (n : Nat) (hs : SubOk m E B b sub n) (hg : ∀ k r,PGood1 r (sub k r)) (text : List UInt8) (t : TokI) (r : List TokI) (o : List Nd) (w : World)
  (h : PSt m E B b w (t :: r) o) (hn : r.length ≤ n) (hl : o.length + r.length ≤ 99999) :
  Calls Tryz.prog 130 #[.pointer (some ⟨b,0,none⟩),.string ⟨text.toArray⟩] w (SynPost m E B b w o (callP sub text r)):=by
 have HS:=Lib.hid hs
 have HGD:=Lib.hid hg
 have H0:=Lib.hid (skip_any m E B b w t r o h (by omega))
 clear hs hg h
 go_enter Tryz.func130,Tryz.ntmps130
 go_wp2_with fail
 ((with_reducible refine H0.out.mono ?_))
 rintro e w1 ⟨rfl,h1,hb1⟩
 have HB1:=Lib.hid hb1
 have HA:=Lib.hid (add_any m E B b 5 0 0 text w1 r o h1 (by omega))
 clear h1 hb1 H0
 unfold tokV at HA
 go_wp2_with fail
 ((with_reducible refine HA.out.mono ?_))
 rintro e w2 ⟨rfl,h2,hb2⟩
 have HB2 : Hid (Below B w w2):=Lib.hid (HB1.out.trans hb2)
 have H2:=Lib.hid h2
 have HAT:=Lib.hid (at_any m E B b 6 w2 r _ h2 (by omega))
 clear HA HB1 hb2
 cases hk : atT 6 r with
 | true =>
   have HX : Hid (callP sub text r = .ok r.tail [⟨5,0,text,0⟩]):=Lib.hid (by unfold callP; rw [if_pos hk])
   rw [hk] at HAT
   cases r with
   | nil => cases hk
   | cons t2 q =>
     have HK:=Lib.hid (skip_any m E B b w2 t2 q _ h2 (by simp at hl; omega))
     clear h2 hk
     go_wp2_with fail
     ((with_reducible refine HAT.out.mono ?_))
     rintro e w3 ⟨rfl,rfl⟩
     go_wp2_with fail
     ((with_reducible refine HK.out.mono ?_))
     rintro e w3 ⟨rfl,h3,hb3⟩
     have HB3 : Hid (Below B w w3):=Lib.hid (HB2.out.trans hb3)
     have H3:=Lib.hid h3
     clear h3 hb3
     go_wp2_with fail
     go_ret
     rw [HX.out]
     exact ⟨HB3.out,rfl,H3.out⟩
 | false =>
   obtain ⟨X,hX⟩ : ∃ X,Hid (callP sub text r = X):=⟨_,Lib.hid rfl⟩
   have HX : Hid (callL sub text 7 0 [] r = X):=Lib.hid (by rw [← hX.out]; unfold callP; rw [if_neg (by rw [hk]; decide)])
   rw [hk] at HAT
   clear h2 hk
   go_wp2_with fail
   ((with_reducible refine HAT.out.mono ?_))
   rintro e w3 ⟨rfl,rfl⟩
   clear HAT
   go_wp2_with fail
   go_loopw [18] (fun i wr => ∃ (j : Nat) (ns : List Nd) (q : List TokI),j ≤ 6 ∧ ns.length + q.length ≤ r.length ∧ Hid (callL sub text (7 - j) j ns q = X) ∧ Hid (PSt m E B b wr q (o ++ ⟨5,0,text,j⟩ :: ns)) ∧ Hid (Below B w wr)) (fun _ wr => tokLen wr b)
   case atStart => exact ⟨0,[],r,by omega,by simp,HX,H2,HB2⟩
   case round =>
    clear H2 HB2 HX
    obtain ⟨j,ns,q,hj,hnq,HX,HP,HB⟩:=hrel
    obtain ⟨w3,rfl⟩ : ∃ y : World,y = wr:=⟨_,rfl⟩
    have HTL : Hid (tokLen w3 b = q.length):=Lib.hid HP.out.tokLen
    have HSUB : Hid (Calls Tryz.prog 47 #[.pointer (some ⟨b,0,none⟩),.int .u8 101] w3 (SynPost m E B b w3 (o ++ ⟨5,0,text,j⟩ :: ns) (sub 101 q))) :=
     Lib.hid (HS.out 101 q _ w3 HP.out (by omega) (by simp only [List.length_append,List.length_cons]; omega))
    have hgood:=HGD.out 101 q
    obtain ⟨f,hf⟩ : ∃ f,7 - j = f + 1:=⟨6 - j,by omega⟩
    rw [hf] at HX
    cases hx : sub 101 q with
    | no x =>
      rw [hx] at HSUB
      have HX2 : Hid (X = .no x):=Lib.hid (by rw [← HX.out,callL,hx])
      clear hx hgood HX HP HTL
      go_wp2_with fail
      ((with_reducible refine HSUB.out.mono ?_))
      rintro e w4 ⟨hb4,rfl,hbad⟩
      have HB4 : Hid (Below B w w4):=Lib.hid (HB.out.trans hb4)
      have HBAD:=Lib.hid hbad
      clear hb4 hbad
      go_wp2_with fail
      go_ret
      rw [hX.out,HX2.out]
      exact ⟨HB4.out,rfl,HBAD.out⟩
    | ok q1 n1 =>
      rw [hx] at HSUB hgood
      obtain ⟨d,hd1,hd2,hd3,hd4⟩:=hgood
      have hql : q1.length + d = q.length:=by rw [hd3,List.length_drop]; omega
      have HX2 : Hid (X = if j + 1 = 7 ∨ atT 9 q1 = false then (if atT 6 q1 = true then .ok q1.tail (⟨5,0,text,(j + 1 : Nat)⟩ :: (ns ++ n1)) else .no q1) else callL sub text f (j + 1) (ns ++ n1) q1.tail):=Lib.hid (by rw [← HX.out,callL,hx])
      clear hx hd3 HX HP
      go_wp2_with fail
      ((with_reducible refine HSUB.out.mono ?_))
      rintro e w4 ⟨hb4,rfl,hp4⟩
      rw [List.append_assoc,List.cons_append] at hp4
      have HB4 : Hid (Below B w w4):=Lib.hid (HB.out.trans hb4)
      obtain ⟨tv,bad,g,c,k1,k2,k3,k4⟩:=hp4.kids
      have HU:=Lib.hid (k4 ((j : Int) + 1))
      obtain ⟨c0,c1,c2,c3⟩:=cells4 k1
      obtain ⟨L,hL⟩ : ∃ L,(o ++ (⟨5,0,text,j⟩ : Nd) :: (ns ++ n1)).length = L:=⟨_,rfl⟩
      have hLo : o.length < L:=by rw [← hL]; simp
      have hLo' : (o.length : Int) < (L : Int):=by omega
      rw [hL] at c3
      clear hp4 hb4 k1 k4 hL HSUB HB
      go_upto_region 9 with fail
      have HP5:=Lib.hid HU.out.1
      have HB5 : Hid (Below B w (w4.setCell ⟨g,o.length * 4 + 3,none⟩ (.int .i64 ((j : Int) + 1)))):=Lib.hid (HB4.out.trans HU.out.2)
      generalize w4.setCell ⟨g,o.length * 4 + 3,none⟩ (.int .i64 ((j : Int) + 1)) = W5 at *
      clear c0 c1 c2 c3 k2 k3 HU HB4 hLo hLo'
      obtain ⟨tv5,bad5,g5,c5,k1,k2,k3,k4⟩:=HP5.out.kids
      obtain ⟨c0,c1,c2,c3⟩:=cells4 k1
      obtain ⟨L5,hL⟩ : ∃ L,(o ++ (⟨5,0,text,(j : Int) + 1⟩ : Nd) :: (ns ++ n1)).length = L:=⟨_,rfl⟩
      have hLo : o.length < L5:=by rw [← hL]; simp
      have hLo' : (o.length : Int) < (L5 : Int):=by omega
      have hLn : L5 = o.length + 1 + ns.length + n1.length:=by rw [← hL]; simp; omega
      rw [hL] at c3
      clear k1 k4 k3 hL
      have HAT:=Lib.hid (at_any m E B b 9 W5 q1 _ HP5.out (by omega))
      have HPU:=Lib.hid (punct_any m E B b 6 W5 q1 _ HP5.out (by omega))
      by_cases h7 : j + 1 = 7
      ·have e7 : ((j : Int) + 1 == 7) = true:=by rw [beq_iff_eq]; omega
       have HX3 : Hid (X = if atT 6 q1 = true then .ok q1.tail (⟨5,0,text,(j : Int) + 1⟩ :: (ns ++ n1)) else .no q1):=Lib.hid (by rw [HX2.out,if_pos (.inl h7)]; simp)
       clear h7 HX2
       go_wp2_with fail
       ((with_reducible refine HPU.out.mono ?_))
       rintro e w6 ⟨hb6,hres⟩
       have HB6 : Hid (Below B w w6):=Lib.hid (HB5.out.trans hb6)
       clear hb6
       cases h6 : atT 6 q1 with
       | true =>
         rw [h6,if_pos rfl] at hres HX3
         obtain ⟨rfl,hp6⟩:=hres
         have HP6:=Lib.hid hp6
         clear hp6
         go_wp2_with fail
         go_ret
         rw [hX.out,HX3.out]
         rw [List.append_nil] at HP6
         exact ⟨HB6.out,rfl,HP6.out⟩
       | false =>
         rw [h6,if_neg (by decide)] at hres HX3
         obtain ⟨rfl,hp6⟩:=hres
         have HP6:=Lib.hid hp6
         clear hp6
         go_wp2_with fail
         go_ret
         rw [hX.out,HX3.out]
         exact ⟨HB6.out,rfl,HP6.out⟩
      ·have e7 : ((j : Int) + 1 == 7) = false:=by rw [beq_eq_false_iff_ne]; omega
       cases h9 : atT 9 q1 with
       | false =>
         have HX3 : Hid (X = if atT 6 q1 = true then .ok q1.tail (⟨5,0,text,(j : Int) + 1⟩ :: (ns ++ n1)) else .no q1):=Lib.hid (by rw [HX2.out,if_pos (.inr h9)]; simp)
         rw [h9] at HAT
         clear h7 HX2 h9
         go_wp2_with fail
         ((with_reducible refine HAT.out.mono ?_))
         rintro e w6 ⟨rfl,rfl⟩
         go_wp2_with fail
         ((with_reducible refine HPU.out.mono ?_))
         rintro e w6 ⟨hb6,hres⟩
         have HB6 : Hid (Below B w w6):=Lib.hid (HB5.out.trans hb6)
         clear hb6
         cases h6 : atT 6 q1 with
         | true =>
           rw [h6,if_pos rfl] at hres HX3
           obtain ⟨rfl,hp6⟩:=hres
           have HP6:=Lib.hid hp6
           clear hp6
           go_wp2_with fail
           go_ret
           rw [hX.out,HX3.out]
           rw [List.append_nil] at HP6
           exact ⟨HB6.out,rfl,HP6.out⟩
         | false =>
           rw [h6,if_neg (by decide)] at hres HX3
           obtain ⟨rfl,hp6⟩:=hres
           have HP6:=Lib.hid hp6
           clear hp6
           go_wp2_with fail
           go_ret
           rw [hX.out,HX3.out]
           exact ⟨HB6.out,rfl,HP6.out⟩
       | true =>
         have HX3 : Hid (callL sub text f (j + 1) (ns ++ n1) q1.tail = X):=Lib.hid (by rw [HX2.out,if_neg (fun h => by rcases h with h | h; exact h7 h; rw [h9] at h; cases h)])
         rw [h9] at HAT
         cases q1 with
         | nil => cases h9
         | cons t2 q2 =>
           have HK:=Lib.hid (skip_any m E B b W5 t2 q2 _ HP5.out (by simp at hql; omega))
           have hq2 : q2.length + 1 + d = q.length:=by simpa using hql
           clear HX2 h9 HP5 HPU
           go_wp2_with fail
           ((with_reducible refine HAT.out.mono ?_))
           rintro e w6 ⟨rfl,rfl⟩
           go_wp2_with fail
           ((with_reducible refine HK.out.mono ?_))
           rintro e w6 ⟨rfl,h6,hb6⟩
           have HB6 : Hid (Below B w w6):=Lib.hid (HB5.out.trans hb6)
           have HP6:=Lib.hid h6
           clear h6 hb6 c0 c1 c2 c3 k2
           go_wp2_with fail
           go_roundw
           case rel => exact ⟨j + 1,ns ++ n1,q2,by omega,by simp only [List.length_append]; omega,by rw [show 7 - (j + 1) = f by omega]; exact HX3,HP6,HB6⟩
           case measure => rw [HTL.out,HP6.out.tokLen]; omega
end
end Go.Proofs.YtnicnfchkdmieaaGreatDoor
