/- Tlf Tlg -/
import Derived.Test.YtnicnfchkdmieaaGreatDoorXaj
set_option linter.unusedVariables false
set_option linter.unusedSimpArgs false
namespace Go.Proofs.YtnicnfchkdmieaaGreatDoor
section
open Go.RowKit
attribute [local go_sem] ByteArray.mk_append_mk bs_get bs_cut bs_end
def nmB (s : List UInt8) : Bool:=decide (nameN s = some s.length)
def kwB : List UInt8 → Bool
 | [] => false
 | c :: r => decide ((c :: r).length ≤ 32) && (letterB c && (decide (wordN (c :: r) = (c :: r).length) && lowerB (c :: r)))
def validT (t : TokI) : Bool:=if t.kind = 1 then nmB t.str else if t.kind = 2 then kwB t.str else if t.kind = 4 then decide (t.str.length ≤ 255) else decide (t.kind = 3 ∨ (5 ≤ t.kind ∧ t.kind ≤ 9))
theorem quiet_same {P : Program} {f : FuncId} {args : Array Value} {w : World} {n : Nat} {v : Value}
  (h : Calls P f args (w.drewN n) fun e w' => e = .returned v ∧ w.drewN n = w') : Calls P f args (w.drewN n) fun e w'' => e = .returned v ∧ ∃ m,w'' = w.drewN m :=
 h.mono fun _ _ ⟨he,hm⟩ => ⟨he,n,hm.symm⟩
theorem preN_not92 {c : UInt8} {r : List UInt8} (h : c ≠ 92) : preN (c :: r) = caretN (c :: r):=by
 unfold preN
 split
 ·next heq => injection heq with h1 _; exact absurd h1 h
 ·rfl
theorem nameN_digit {c : UInt8} {r : List UInt8} (h : digitB c = true) : nameN (c :: r) = none:=by
 have hr:=digitB_range h
 have h1 : c ≠ 92:=by rintro rfl; simp at hr
 have h2 : c ≠ 94:=by rintro rfl; simp at hr
 have hp : preN (c :: r) = 0:=by
  rw [preN_not92 h1]
  unfold caretN
  rw [List.takeWhile_cons,if_neg (by rw [beq_iff_eq]; exact h2)]; rfl
 rw [nameN_stop (by rw [hp]; simp) (by simp only [hp,List.getElem_cons_zero]; exact digit_letter h),hp,if_neg (by decide)]
theorem valid_name (n d : Int) (s : List UInt8) (w : World) (hs : s.length ≤ 9223372036854770000) : Calls Tryz.prog 35 #[tokV 1 n s d] w fun e w' => e = .returned (.bool (nmB s)) ∧ Below w.heap.size w w':=by
 have HB : Hid (∀ o m,Below w.heap.size w ((w.alloc o).drewN m)):=Lib.hid fun o m => below_drewN ((Below.refl _ _).alloc (Nat.le_refl _) o) m
 unfold tokV
 cases s with
 | nil =>
   have e : nmB [] = false:=by decide
   rw [e]
   go_enter Tryz.func35,Tryz.ntmps35
   go_wp2_with fail
   go_quiet (fail)
   go_wp2_with fail
   go_ret
   exact ⟨rfl,HB.out _ _⟩
 | cons c r =>
   have hl : ((c :: r).length : Int) ≤ 9223372036854770000:=by omega
   cases hd : digitB c with
   | true =>
     have e : nmB (c :: r) = false:=by unfold nmB; rw [nameN_digit hd,decide_eq_false_iff_not]; intro h; cases h
     rw [e]
     clear e
     go_enter Tryz.func35,Tryz.ntmps35
     go_wp2_with fail
     go_quiet ((go_at_call 55; with_reducible refine quiet_same (digit_is c true hd _)))
     go_wp2_with fail
     go_ret
     exact ⟨rfl,HB.out _ _⟩
   | false =>
     have KN:=Lib.hid (fun w => rName_any (c :: r) 0 w (by omega) (by simp))
     rw [List.drop_zero] at KN
     obtain ⟨R,hR⟩ : ∃ R : Int,nameI (nameN (c :: r)) 0 = R:=⟨_,rfl⟩
     have hb : (R == ((r.length : Int) + 1)) = nmB (c :: r):=by
      rw [← hR]
      unfold nmB nameI
      cases hn : nameN (c :: r) with
      | none => rw [Bool.eq_iff_iff,beq_iff_eq,decide_eq_true_eq]; simp; omega
      | some m =>
        rw [Bool.eq_iff_iff,beq_iff_eq,decide_eq_true_eq]
        simp only [Option.some.injEq,List.length_cons]
        omega
     rw [hR] at KN
     obtain ⟨b,hbb⟩ : ∃ b,nmB (c :: r) = b:=⟨_,rfl⟩
     rw [hbb] at hb ⊢
     clear hR hbb
     go_enter Tryz.func35,Tryz.ntmps35
     go_wp2_with fail
     go_quiet (first | (go_at_call 55; with_reducible refine quiet_same (digit_is c false hd _)) | (go_at_call 54; with_reducible refine quiet_same (KN.out _)))
     go_wp2_with fail
     go_ret
     exact ⟨rfl,HB.out _ _⟩
theorem valid_word (n d : Int) (s : List UInt8) (w : World) (hs : s.length ≤ 9223372036854770000) : Calls Tryz.prog 35 #[tokV 2 n s d] w fun e w' => e = .returned (.bool (kwB s)) ∧ Below w.heap.size w w':=by
 have HB : Hid (∀ o m,Below w.heap.size w ((w.alloc o).drewN m)):=Lib.hid fun o m => below_drewN ((Below.refl _ _).alloc (Nat.le_refl _) o) m
 unfold tokV
 cases s with
 | nil =>
   rw [show kwB [] = false from rfl]
   go_enter Tryz.func35,Tryz.ntmps35
   go_wp2_with fail
   go_quiet (fail)
   go_wp2_with fail
   go_ret
   exact ⟨rfl,HB.out _ _⟩
 | cons c r =>
   have hl : ((c :: r).length : Int) ≤ 9223372036854770000:=by omega
   have KI:=Lib.hid (fun w => ident_any (c :: r) 0 w (by omega) (by omega))
   rw [idEnd_word,List.drop_zero,Nat.zero_add] at KI
   have KL:=Lib.hid (fun w => lower_any (c :: r) w (by omega))
   obtain ⟨N,hN⟩ : ∃ N,wordN (c :: r) = N:=⟨_,rfl⟩
   obtain ⟨lw,hlw⟩ : ∃ b,lowerB (c :: r) = b:=⟨_,rfl⟩
   have e : kwB (c :: r) = (decide (r.length + 1 ≤ 32) && (letterB c && (decide (N = r.length + 1) && lw))):=by rw [← hN,← hlw]; rfl
   rw [e]
   rw [hN] at KI
   rw [hlw] at KL
   clear e hN hlw
   have h1 : decide ((1 : Int) ≤ (r.length : Int) + 1) = true:=decide_eq_true (by omega)
   by_cases h32 : r.length + 1 ≤ 32
   ·have g32 : decide ((r.length : Int) + 1 ≤ 32) = true:=decide_eq_true (by omega)
    rw [show decide (r.length + 1 ≤ 32) = true from decide_eq_true h32]
    cases hl' : letterB c with
    | false =>
      go_enter Tryz.func35,Tryz.ntmps35
      go_wp2_with fail
      go_quiet ((go_at_call 51; with_reducible refine quiet_same (letter_is c false hl' _)))
      go_wp2_with fail
      go_ret
      exact ⟨rfl,HB.out _ _⟩
    | true =>
      by_cases hNN : N = r.length + 1
      ·have gN : ((N : Int) == (r.length : Int) + 1) = true:=by rw [beq_iff_eq]; omega
       rw [show decide (N = r.length + 1) = true from decide_eq_true hNN]
       clear hNN
       go_enter Tryz.func35,Tryz.ntmps35
       go_wp2_with fail
       go_quiet (first | (go_at_call 51; with_reducible refine quiet_same (letter_is c true hl' _)) | (go_at_call 53; with_reducible refine quiet_same (KI.out _)) | (go_at_call 52; with_reducible refine quiet_same (KL.out _)))
       go_wp2_with fail
       go_ret
       exact ⟨rfl,HB.out _ _⟩
      ·have gN : ((N : Int) == (r.length : Int) + 1) = false:=by rw [beq_eq_false_iff_ne]; omega
       rw [show decide (N = r.length + 1) = false from decide_eq_false hNN]
       clear hNN
       go_enter Tryz.func35,Tryz.ntmps35
       go_wp2_with fail
       go_quiet (first | (go_at_call 51; with_reducible refine quiet_same (letter_is c true hl' _)) | (go_at_call 53; with_reducible refine quiet_same (KI.out _)) | (go_at_call 52; with_reducible refine quiet_same (KL.out _)))
       go_wp2_with fail
       go_ret
       exact ⟨rfl,HB.out _ _⟩
   ·have g32 : decide ((r.length : Int) + 1 ≤ 32) = false:=decide_eq_false (by omega)
    rw [show decide (r.length + 1 ≤ 32) = false from decide_eq_false h32]
    go_enter Tryz.func35,Tryz.ntmps35
    go_wp2_with fail
    go_quiet (fail)
    go_wp2_with fail
    go_ret
    exact ⟨rfl,HB.out _ _⟩
theorem valid_str (n d : Int) (s : List UInt8) (w : World) (hs : s.length ≤ 9223372036854770000) : Calls Tryz.prog 35 #[tokV 4 n s d] w fun e w' => e = .returned (.bool (decide (s.length ≤ 255))) ∧ Below w.heap.size w w':=by
 have HB : Hid (∀ o,Below w.heap.size w (w.alloc o)):=Lib.hid fun o => (Below.refl _ _).alloc (Nat.le_refl _) o
 have e : decide (s.length ≤ 255) = decide ((s.length : Int) ≤ 255):=by rw [decide_eq_decide]; omega
 rw [e]
 unfold tokV
 go_enter Tryz.func35,Tryz.ntmps35
 go_wp2_with fail
 go_ret
 exact ⟨rfl,HB.out _⟩
theorem valid_other (k n d : Int) (s : List UInt8) (w : World) (h1 : k ≠ 1) (h2 : k ≠ 2) (h4 : k ≠ 4) : Calls Tryz.prog 35 #[tokV k n s d] w fun e w' => e = .returned (.bool (decide (k = 3 ∨ (5 ≤ k ∧ k ≤ 9)))) ∧ Below w.heap.size w w':=by
 have HB : Hid (∀ o,Below w.heap.size w (w.alloc o)):=Lib.hid fun o => (Below.refl _ _).alloc (Nat.le_refl _) o
 have b1 : (k == 1) = false:=beq_eq_false_iff_ne.2 h1
 have b2 : (k == 2) = false:=beq_eq_false_iff_ne.2 h2
 have b4 : (k == 4) = false:=beq_eq_false_iff_ne.2 h4
 obtain ⟨X,hX⟩ : ∃ X,Hid (decide (k = 3 ∨ (5 ≤ k ∧ k ≤ 9)) = X):=⟨_,Lib.hid rfl⟩
 rw [hX.out]
 unfold tokV
 by_cases h3 : k = 3
 ·subst h3
  obtain rfl : X = true:=by rw [← hX.out]; decide
  go_enter Tryz.func35,Tryz.ntmps35
  go_wp2_with fail
  go_ret
  exact ⟨rfl,HB.out _⟩
 ·have b3 : (k == 3) = false:=beq_eq_false_iff_ne.2 h3
  by_cases h5 : 5 ≤ k
  ·by_cases h9 : k ≤ 9
   ·obtain rfl : X = true:=by rw [← hX.out,decide_eq_true_eq]; exact .inr ⟨h5,h9⟩
    clear hX h1 h2 h3 h4
    go_enter Tryz.func35,Tryz.ntmps35
    go_wp2_with fail
    go_ret
    exact ⟨rfl,HB.out _⟩
   ·obtain rfl : X = false:=by rw [← hX.out,decide_eq_false_iff_not]; omega
    clear hX h1 h2 h3 h4
    go_enter Tryz.func35,Tryz.ntmps35
    go_wp2_with fail
    go_ret
    exact ⟨rfl,HB.out _⟩
  ·obtain rfl : X = false:=by rw [← hX.out,decide_eq_false_iff_not]; omega
   clear hX h1 h2 h3 h4
   go_enter Tryz.func35,Tryz.ntmps35
   go_wp2_with fail
   go_ret
   exact ⟨rfl,HB.out _⟩
theorem rvalidT_any (t : TokI) (w : World) (hs : t.str.length ≤ 9223372036854770000) : Calls Tryz.prog 35 #[t.val] w fun e w' => e = .returned (.bool (validT t)) ∧ Below w.heap.size w w':=by
 obtain ⟨k,n,s,d⟩:=t
 unfold validT TokI.val
 simp only
 by_cases h1 : k = 1
 ·subst h1; rw [if_pos rfl]; exact valid_name n d s w hs
 ·rw [if_neg h1]
  by_cases h2 : k = 2
  ·subst h2; rw [if_pos rfl]; exact valid_word n d s w hs
  ·rw [if_neg h2]
   by_cases h4 : k = 4
   ·subst h4; rw [if_pos rfl]; exact valid_str n d s w hs
   ·rw [if_neg h4]; exact valid_other k n d s w h1 h2 h4
end
section
open Go.RowKit
attribute [local go_sem] ByteArray.mk_append_mk bs_get bs_cut bs_end
def punC (k : Int) : List UInt8:=if k = 5 then [40] else if k = 6 then [41] else if k = 7 then [123] else if k = 8 then [125] else [44]
def fmtT (t : TokI) : List UInt8:=if t.kind = 1 ∨ t.kind = 2 then t.str else if t.kind = 3 then fmtI t.num.toNat else if t.kind = 4 then quoL t.str else punC t.kind
theorem TSl.one {w : World} {v : Value} {t : TokI} (h : TSl w v [t]) : ∃ b off cap,v = .slice (some ⟨b,off,none⟩) 1 cap ∧ ∀ w',Below w.heap.size w w' → TAtK w' b off t:=by
 obtain ⟨a,cap,hv,hc⟩:=h
 obtain ⟨b,off,rfl,hk⟩:=hc (by simp)
 refine ⟨b,off,cap,hv,fun w' hb => ?_⟩
 have:=(hk 0 (by simp)).below hb
 simpa using this
end
end Go.Proofs.YtnicnfchkdmieaaGreatDoor
