/- Tkb -/
import Derived.Test.YtoohondkpddmcaaGreatDoorVaa
set_option linter.unusedVariables false
set_option linter.unusedSimpArgs false
namespace Go.Proofs.YtoohondkpddmcaaGreatDoor
open Go.RowKit
attribute [local go_sem] ByteArray.mk_append_mk bs_get bs_cut bs_end
theorem tIsDigit_any (c : UInt8) (w : World) : Calls Tryz.prog 69 #[.int .u8 c.toNat] w fun e w' => e = .returned (.bool (digitB c)) ∧ w = w':=by
 have hc:=c.toNat_lt
 unfold digitB
 generalize c.toNat = n at *
 have HR : Hid (decide ((n : Int) ≤ 57) = decide (48 ≤ n ∧ n ≤ 57) ∨ ¬ 48 ≤ n):=Lib.hid (by
  by_cases h : 48 ≤ n
  ·left; rw [Bool.eq_iff_iff,decide_eq_true_eq,decide_eq_true_eq]; omega
  ·right; exact h)
 have HF : Hid (¬ 48 ≤ n → false = decide (48 ≤ n ∧ n ≤ 57)):=Lib.hid (fun h => by rw [eq_comm,decide_eq_false_iff_not]; omega)
 generalize decide (48 ≤ n ∧ n ≤ 57) = R at *
 by_cases h : 48 ≤ n
 ·have h' : (48 : Int) ≤ n:=by omega
  go_enter Tryz.func69,Tryz.ntmps69
  go_wp2_with fail
  go_ret
  exact ⟨boolOf (HR.out.resolve_right (fun x => x h)),rfl⟩
 ·have h' : ¬ (48 : Int) ≤ n:=by omega
  go_enter Tryz.func69,Tryz.ntmps69
  go_wp2_with fail
  go_ret
  exact ⟨boolOf (HF.out h),rfl⟩
theorem tIsLower_any (c : UInt8) (w : World) : Calls Tryz.prog 75 #[.int .u8 c.toNat] w fun e w' => e = .returned (.bool (smallB c)) ∧ w = w':=by
 have hc:=c.toNat_lt
 unfold smallB
 generalize c.toNat = n at *
 have HR : Hid (decide ((n : Int) ≤ 122) = decide (97 ≤ n ∧ n ≤ 122) ∨ ¬ 97 ≤ n):=Lib.hid (by
  by_cases h : 97 ≤ n
  ·left; rw [Bool.eq_iff_iff,decide_eq_true_eq,decide_eq_true_eq]; omega
  ·right; exact h)
 have HF : Hid (¬ 97 ≤ n → false = decide (97 ≤ n ∧ n ≤ 122)):=Lib.hid (fun h => by rw [eq_comm,decide_eq_false_iff_not]; omega)
 generalize decide (97 ≤ n ∧ n ≤ 122) = R at *
 by_cases h : 97 ≤ n
 ·have h' : (97 : Int) ≤ n:=by omega
  go_enter Tryz.func75,Tryz.ntmps75
  go_wp2_with fail
  go_ret
  exact ⟨boolOf (HR.out.resolve_right (fun x => x h)),rfl⟩
 ·have h' : ¬ (97 : Int) ≤ n:=by omega
  go_enter Tryz.func75,Tryz.ntmps75
  go_wp2_with fail
  go_ret
  exact ⟨boolOf (HF.out h),rfl⟩
theorem tIsLower_is (c : UInt8) (b : Bool) (H : smallB c = b) (w : World) : Calls Tryz.prog 75 #[.int .u8 c.toNat] w fun e w' => e = .returned (.bool b) ∧ w = w':=by
 rw [← H]; exact tIsLower_any c w
theorem tIsDigit_is (c : UInt8) (b : Bool) (H : digitB c = b) (w : World) : Calls Tryz.prog 69 #[.int .u8 c.toNat] w fun e w' => e = .returned (.bool b) ∧ w = w':=by
 rw [← H]; exact tIsDigit_any c w
theorem tIsStart_any (c : UInt8) (w : World) : Calls Tryz.prog 34 #[.int .u8 c.toNat] w fun e w' => e = .returned (.bool (letterB c)) ∧ w = w':=by
 have hc:=c.toNat_lt
 have HN:=Lib.hid (tIsLower_any c w)
 have HB : Hid (letterB c = (smallB c || decide (65 ≤ c.toNat ∧ c.toNat ≤ 90) || decide (c.toNat = 95))):=Lib.hid (by unfold letterB smallB; rw [Bool.eq_iff_iff]; simp only [decide_eq_true_eq,Bool.or_eq_true]; omega)
 obtain ⟨L,hL⟩ : ∃ L,letterB c = L:=⟨_,rfl⟩
 obtain ⟨b,hb⟩ : ∃ b,smallB c = b:=⟨_,rfl⟩
 rw [hL,hb] at HB
 rw [hb] at HN
 rw [hL]
 clear hL hb
 obtain ⟨n,hn⟩ : ∃ n,c.toNat = n:=⟨_,rfl⟩
 rw [hn] at HB HN hc ⊢
 clear hn
 go_enter Tryz.func34,Tryz.ntmps34
 go_wp2_with fail
 ((with_reducible refine HN.out.mono ?_))
 rintro e w2 ⟨rfl,rfl⟩
 cases b
 ·by_cases h1 : (65 : Int) ≤ n
  ·by_cases h2 : (n : Int) ≤ 90
   ·go_wp2_with fail
    go_ret
    exact ⟨by rw [HB.out,decide_eq_true (p:=65 ≤ n ∧ n ≤ 90) (by omega)]; rfl,rfl⟩
   ·have h2' : decide ((n : Int) ≤ 90) = false:=decide_eq_false h2
    have h3 : Hid (((n : Int) == 95) = decide (n = 95)):=Lib.hid (by rw [Bool.eq_iff_iff,beq_iff_eq,decide_eq_true_eq]; omega)
    go_wp2_with fail
    go_ret
    exact ⟨by rw [HB.out,decide_eq_false (p:=65 ≤ n ∧ n ≤ 90) (by omega),← h3.out]; rfl,rfl⟩
  ·have h3 : Hid (((n : Int) == 95) = decide (n = 95)):=Lib.hid (by rw [Bool.eq_iff_iff,beq_iff_eq,decide_eq_true_eq]; omega)
   go_wp2_with fail
   go_ret
   exact ⟨by rw [HB.out,decide_eq_false (p:=65 ≤ n ∧ n ≤ 90) (by omega),← h3.out]; rfl,rfl⟩
 ·go_wp2_with fail
  go_ret
  exact ⟨by rw [HB.out]; rfl,rfl⟩
theorem tHex_any (c : UInt8) (w : World) : Calls Tryz.prog 117 #[.int .u8 c.toNat] w fun e w' => e = .returned (.tuple #[.int .u8 ((hexV c).getD 0 : Nat),.bool (hexV c).isSome]) ∧ w = w':=by
 have hc:=c.toNat_lt
 obtain ⟨b,hb⟩ : ∃ b,digitB c = b:=⟨_,rfl⟩
 have HN:=Lib.hid (tIsDigit_is c b hb w)
 obtain ⟨X,hX⟩ : ∃ X,Hid (hexV c = X):=⟨_,Lib.hid rfl⟩
 rw [hX.out]
 have HV : Hid (X = if b = true then some (c.toNat - 48) else if 97 ≤ c.toNat ∧ c.toNat ≤ 102 then some (c.toNat - 87) else if 65 ≤ c.toNat ∧ c.toNat ≤ 70 then some (c.toNat - 55) else none):=Lib.hid (by rw [← hX.out,← hb]; rfl)
 have HD : Hid (b = true → 48 ≤ c.toNat ∧ c.toNat ≤ 57):=Lib.hid (by rw [← hb]; unfold digitB; simp)
 clear hX hb
 obtain ⟨n,hn⟩ : ∃ n,c.toNat = n:=⟨_,rfl⟩
 rw [hn] at HV HN hc HD ⊢
 clear hn
 go_enter Tryz.func117,Tryz.ntmps117
 go_wp2_with fail
 ((with_reducible refine HN.out.mono ?_))
 rintro e w2 ⟨rfl,rfl⟩
 cases b
 ·by_cases h1 : (97 : Int) ≤ n
  ·by_cases h2 : (n : Int) ≤ 102
   ·go_wp2_with fail
    refine bodyPost_ret (results_tmp2 rfl _ _ _) rfl ?_
    exact ⟨by rw [HV.out,if_neg (by decide),if_pos (by omega)]; simp; omega,rfl⟩
   ·go_wp2_with fail
    refine bodyPost_ret (results_tmp2 rfl _ _ _) rfl ?_
    exact ⟨by rw [HV.out,if_neg (by decide),if_neg (by omega),if_neg (by omega)]; rfl,rfl⟩
  ·by_cases h3 : (65 : Int) ≤ n
   ·by_cases h2 : (n : Int) ≤ 70
    ·go_wp2_with fail
     refine bodyPost_ret (results_tmp2 rfl _ _ _) rfl ?_
     exact ⟨by rw [HV.out,if_neg (by decide),if_neg (by omega),if_pos (by omega)]; simp; omega,rfl⟩
    ·go_wp2_with fail
     refine bodyPost_ret (results_tmp2 rfl _ _ _) rfl ?_
     exact ⟨by rw [HV.out,if_neg (by decide),if_neg (by omega),if_neg (by omega)]; rfl,rfl⟩
   ·go_wp2_with fail
    refine bodyPost_ret (results_tmp2 rfl _ _ _) rfl ?_
    exact ⟨by rw [HV.out,if_neg (by decide),if_neg (by omega),if_neg (by omega)]; rfl,rfl⟩
 ·obtain ⟨h1,h2⟩:=HD.out rfl
  go_wp2_with fail
  refine bodyPost_ret (results_tmp2 rfl _ _ _) rfl ?_
  exact ⟨by rw [HV.out]; simp; omega,rfl⟩
theorem punctK_is (c : UInt8) : punctK c = if c.toNat = 40 then 5 else if c.toNat = 41 then 6 else if c.toNat = 123 then 7 else if c.toNat = 125 then 8 else if c.toNat = 44 then 9 else 0:=by
 have e : ∀ d : UInt8,(c = d) = (c.toNat = d.toNat):=fun d => propext UInt8.toNat_inj.symm
 unfold punctK
 simp only [e]
 rfl
theorem tPunct_any (c : UInt8) (w : World) : Calls Tryz.prog 73 #[.int .u8 c.toNat] w fun e w' => e = .returned (.int .i64 (punctK c : Nat)) ∧ w = w':=by
 rw [punctK_is]
 have hc:=c.toNat_lt
 generalize c.toNat = n at *
 obtain ⟨K,hK⟩ : ∃ K : Nat,Hid ((if n = 40 then 5 else if n = 41 then 6 else if n = 123 then 7 else if n = 125 then 8 else if n = 44 then 9 else 0) = K):=⟨_,Lib.hid rfl⟩
 rw [hK.out]
 go_enter Tryz.func73,Tryz.ntmps73
 go_wp2_with fail
 all_goals go_ret
 all_goals refine ⟨?_,rfl⟩
 all_goals (rw [← hK.out]; simp only [beq_iff_eq,beq_eq_false_iff_ne] at *; first | (rw [if_pos (by omega)]; rfl) | (rw [if_neg (by omega),if_pos (by omega)]; rfl) | (rw [if_neg (by omega),if_neg (by omega),if_pos (by omega)]; rfl) | (rw [if_neg (by omega),if_neg (by omega),if_neg (by omega),if_pos (by omega)]; rfl) | (rw [if_neg (by omega),if_neg (by omega),if_neg (by omega),if_neg (by omega),if_pos (by omega)]; rfl) | (rw [if_neg (by omega),if_neg (by omega),if_neg (by omega),if_neg (by omega),if_neg (by omega)]; rfl))
end Go.Proofs.YtoohondkpddmcaaGreatDoor
