/- Valid, writeString of the program: the walks. -/
import Derived.Test.YtebmkalgdbkijaaDoorTlh
import Derived.Test.YtebmkalgdbkijaaDoorBlk
namespace Go.Proofs.YtebmkalgdbkijaaDoor
open Go.RowKit
set_option linter.unusedVariables false
set_option linter.unusedSimpArgs false
attribute [local go_sem] ByteArray.mk_append_mk bs_get bs_cut bs_end

theorem start_is (c : UInt8) (b : Bool) (H : letterB c = b) (w : World) : Calls Tryd.prog 31 #[.int .u8 c.toNat] w fun e w' => e = .returned (.bool b) ∧ w = w' := by
  rw [← H]; exact tIsStart_any c w
theorem tvalid_name (n d : Int) (s : List UInt8) (w : World) (hs : s.length ≤ 9223372036854770000) : Calls Tryd.prog 18 #[tokV 1 n s d] w fun e w' => e = .returned (.bool (nameB s)) ∧ Below w.heap.size w w' := by
  have HB : Hid (∀ o, Below w.heap.size w (w.alloc o)) := Lib.hid fun o => (Below.refl _ _).alloc (Nat.le_refl _) o
  have KN := Lib.hid (fun w => tName_any s w (by omega))
  obtain ⟨o, ho⟩ : ∃ o, nameN s = o := ⟨_, rfl⟩
  have e : nameB s = decide (o = some s.length) := by unfold nameB; rw [ho]
  rw [e]
  rw [ho] at KN
  clear e ho
  unfold tokV
  cases o with
  | none =>
    go_enter Tryd.func18, Tryd.ntmps18
    go_wp2_with fail
    ((with_reducible refine (KN.out _).mono ?_))
    rintro e w2 ⟨rfl, rfl⟩
    unfold namePair
    simp only [Option.getD_none, Option.isSome_none]
    go_wp2_with fail
    go_ret
    exact ⟨rfl, HB.out _⟩
  | some m =>
    have hm : ((m : Int) == (s.length : Int)) = decide (some m = some s.length) := by
      rw [Bool.eq_iff_iff, beq_iff_eq, decide_eq_true_eq, Option.some.injEq]; omega
    obtain ⟨b, hb⟩ : ∃ b, decide (some m = some s.length) = b := ⟨_, rfl⟩
    rw [hb] at hm ⊢
    clear hb
    go_enter Tryd.func18, Tryd.ntmps18
    go_wp2_with fail
    ((with_reducible refine (KN.out _).mono ?_))
    rintro e w2 ⟨rfl, rfl⟩
    unfold namePair
    simp only [Option.getD_some, Option.isSome_some]
    go_wp2_with fail
    go_ret
    exact ⟨rfl, HB.out _⟩
theorem tvalid_word (n d : Int) (s : List UInt8) (w : World) (hs : s.length ≤ 9223372036854770000) : Calls Tryd.prog 18 #[tokV 2 n s d] w fun e w' => e = .returned (.bool (kwB s)) ∧ Below w.heap.size w w' := by
  have HB : Hid (∀ o, Below w.heap.size w (w.alloc o)) := Lib.hid fun o => (Below.refl _ _).alloc (Nat.le_refl _) o
  unfold tokV
  cases s with
  | nil =>
    rw [show kwB [] = false from rfl]
    go_enter Tryd.func18, Tryd.ntmps18
    go_wp2_with fail
    go_ret
    exact ⟨rfl, HB.out _⟩
  | cons c r =>
    have KI := Lib.hid (fun w => tWord_any (c :: r) w (by omega))
    have KL := Lib.hid (fun w => tLower_any (c :: r) w (by omega))
    obtain ⟨N, hN⟩ : ∃ N, wordN (c :: r) = N := ⟨_, rfl⟩
    obtain ⟨lw, hlw⟩ : ∃ b, lowerB (c :: r) = b := ⟨_, rfl⟩
    have e : kwB (c :: r) = (decide (r.length + 1 ≤ 32) && (letterB c && (decide (N = r.length + 1) && lw))) := by rw [← hN, ← hlw]; rfl
    rw [e]
    rw [hN] at KI
    rw [hlw] at KL
    clear e hN hlw
    by_cases h32 : (r.length : Int) + 1 ≤ 32
    · rw [show decide (r.length + 1 ≤ 32) = true from decide_eq_true (by omega)]
      cases hl' : letterB c with
      | false =>
        have KS := Lib.hid (fun w => start_is c false hl' w)
        clear hl'
        go_enter Tryd.func18, Tryd.ntmps18
        go_wp2_with fail
        ((with_reducible refine (KS.out _).mono ?_))
        rintro e w2 ⟨rfl, rfl⟩
        go_wp2_with fail
        go_ret
        exact ⟨rfl, HB.out _⟩
      | true =>
        have KS := Lib.hid (fun w => start_is c true hl' w)
        clear hl'
        have gN : ((N : Int) == (r.length : Int) + 1) = decide (N = r.length + 1) := by rw [Bool.eq_iff_iff, beq_iff_eq, decide_eq_true_eq]; omega
        obtain ⟨b, hb⟩ : ∃ b, decide (N = r.length + 1) = b := ⟨_, rfl⟩
        rw [hb] at gN ⊢
        clear hb
        cases b
        · go_enter Tryd.func18, Tryd.ntmps18
          go_wp2_with fail
          ((with_reducible refine (KS.out _).mono ?_))
          rintro e w2 ⟨rfl, rfl⟩
          go_wp2_with fail
          ((with_reducible refine (KI.out _).mono ?_))
          rintro e w2 ⟨rfl, rfl⟩
          go_wp2_with fail
          go_ret
          exact ⟨rfl, HB.out _⟩
        · go_enter Tryd.func18, Tryd.ntmps18
          go_wp2_with fail
          ((with_reducible refine (KS.out _).mono ?_))
          rintro e w2 ⟨rfl, rfl⟩
          go_wp2_with fail
          ((with_reducible refine (KI.out _).mono ?_))
          rintro e w2 ⟨rfl, rfl⟩
          go_wp2_with fail
          ((with_reducible refine (KL.out _).mono ?_))
          rintro e w2 ⟨rfl, rfl⟩
          go_wp2_with fail
          go_ret
          exact ⟨rfl, HB.out _⟩
    · rw [show decide (r.length + 1 ≤ 32) = false from decide_eq_false (by omega)]
      go_enter Tryd.func18, Tryd.ntmps18
      go_wp2_with fail
      go_ret
      exact ⟨rfl, HB.out _⟩
theorem tvalid_str (n d : Int) (s : List UInt8) (w : World) (hs : s.length ≤ 9223372036854770000) : Calls Tryd.prog 18 #[tokV 4 n s d] w fun e w' => e = .returned (.bool (decide (s.length ≤ 255))) ∧ Below w.heap.size w w' := by
  have HB : Hid (∀ o, Below w.heap.size w (w.alloc o)) := Lib.hid fun o => (Below.refl _ _).alloc (Nat.le_refl _) o
  have e : decide (s.length ≤ 255) = decide ((s.length : Int) ≤ 255) := by rw [decide_eq_decide]; omega
  rw [e]
  unfold tokV
  go_enter Tryd.func18, Tryd.ntmps18
  go_wp2_with fail
  go_ret
  exact ⟨rfl, HB.out _⟩
theorem tvalid_yes (k n d : Int) (s : List UInt8) (w : World) (h : k = 3 ∨ k = 5 ∨ k = 6 ∨ k = 7 ∨ k = 8 ∨ k = 9) : Calls Tryd.prog 18 #[tokV k n s d] w fun e w' => e = .returned (.bool true) ∧ Below w.heap.size w w' := by
  have HB : Hid (∀ o, Below w.heap.size w (w.alloc o)) := Lib.hid fun o => (Below.refl _ _).alloc (Nat.le_refl _) o
  unfold tokV
  rcases h with rfl | rfl | rfl | rfl | rfl | rfl
  all_goals
    go_enter Tryd.func18, Tryd.ntmps18
    go_wp2_with fail
    go_ret
    exact ⟨rfl, HB.out _⟩
theorem tvalid_no (k n d : Int) (s : List UInt8) (w : World) (h1 : k ≠ 1) (h2 : k ≠ 2) (h4 : k ≠ 4) (h : ¬ (k = 3 ∨ (5 ≤ k ∧ k ≤ 9))) : Calls Tryd.prog 18 #[tokV k n s d] w fun e w' => e = .returned (.bool false) ∧ Below w.heap.size w w' := by
  have HB : Hid (∀ o, Below w.heap.size w (w.alloc o)) := Lib.hid fun o => (Below.refl _ _).alloc (Nat.le_refl _) o
  have b1 : (k == 1) = false := beq_eq_false_iff_ne.2 h1
  have b2 : (k == 2) = false := beq_eq_false_iff_ne.2 h2
  have b3 : (k == 3) = false := beq_eq_false_iff_ne.2 (by omega)
  have b4 : (k == 4) = false := beq_eq_false_iff_ne.2 h4
  have b5 : (k == 5) = false := beq_eq_false_iff_ne.2 (by omega)
  have b6 : (k == 6) = false := beq_eq_false_iff_ne.2 (by omega)
  have b7 : (k == 7) = false := beq_eq_false_iff_ne.2 (by omega)
  have b8 : (k == 8) = false := beq_eq_false_iff_ne.2 (by omega)
  have b9 : (k == 9) = false := beq_eq_false_iff_ne.2 (by omega)
  clear h1 h2 h4 h
  unfold tokV
  go_enter Tryd.func18, Tryd.ntmps18
  go_wp2_with fail
  go_ret
  exact ⟨rfl, HB.out _⟩
theorem tvalid_any (t : TokI) (w : World) (hs : t.str.length ≤ 9223372036854770000) : Calls Tryd.prog 18 #[t.val] w fun e w' => e = .returned (.bool (validT t)) ∧ Below w.heap.size w w' := by
  obtain ⟨k, n, s, d⟩ := t
  unfold validT TokI.val
  simp only
  by_cases h1 : k = 1
  · subst h1; rw [if_pos rfl]; exact tvalid_name n d s w hs
  · rw [if_neg h1]
    by_cases h2 : k = 2
    · subst h2; rw [if_pos rfl]; exact tvalid_word n d s w hs
    · rw [if_neg h2]
      by_cases h4 : k = 4
      · subst h4; rw [if_pos rfl]; exact tvalid_str n d s w hs
      · rw [if_neg h4]
        by_cases h : k = 3 ∨ (5 ≤ k ∧ k ≤ 9)
        · rw [decide_eq_true h]; exact tvalid_yes k n d s w (by omega)
        · rw [decide_eq_false h]; exact tvalid_no k n d s w h1 h2 h4 h
end Go.Proofs.YtebmkalgdbkijaaDoor
