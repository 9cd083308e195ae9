/- What is formatted is parsed: the plain law; NspathRoundTrip: the walk. -/
import Derived.Test.YtkalnblbplaheaaDoorNsq
namespace Go.Proofs.YtkalnblbplaheaaDoor
open Go.RowKit
set_option linter.unusedVariables false
set_option linter.unusedSimpArgs false
attribute [local go_sem] ByteArray.mk_append_mk bs_get bs_cut bs_end

theorem idB_not {c : UInt8} (h : idB c = true) : c ≠ 46 ∧ c ≠ 94 ∧ c ≠ 92 := by
  unfold idB letterB digitB at h
  simp only [Bool.or_eq_true, decide_eq_true_eq] at h
  refine ⟨?_, ?_, ?_⟩ <;> (rintro rfl; simp at h)
theorem segB_mem {x : List UInt8} (h : segB x = true) : x ≠ [] ∧ ∀ c ∈ x, c ≠ 46 ∧ c ≠ 94 ∧ c ≠ 92 := by
  match x, h with
  | c :: r, h =>
    refine ⟨by simp, fun d hd => ?_⟩
    unfold segB at h
    simp only [Bool.and_eq_true] at h
    exact idB_not (List.all_eq_true.1 h.1.2 d hd)
/-- A text without a dot, ahead of a text that is cut. -/
theorem splitD_front : ∀ (x s : List UInt8), (∀ c ∈ x, c ≠ 46) → splitD (x ++ 46 :: s) = x :: splitD s
  | [], s, _ => splitD_dot s
  | c :: x, s, h => by
    rw [List.cons_append]
    exact splitD_other c _ (h c (by simp)) x _ (splitD_front x s (fun d hd => h d (by simp [hd])))
theorem splitD_one : ∀ (x : List UInt8), (∀ c ∈ x, c ≠ 46) → splitD x = [x]
  | [], _ => rfl
  | c :: x, h => splitD_other c _ (h c (by simp)) x _ (splitD_one x (fun d hd => h d (by simp [hd])))
theorem splitD_join : ∀ (l : List (List UInt8)), l ≠ [] → (∀ x ∈ l, ∀ c ∈ x, c ≠ 46) → splitD (joinB l) = l
  | [], h, _ => absurd rfl h
  | [x], _, h => by rw [joinB_one]; exact splitD_one x (h x (by simp))
  | x :: y :: r, _, h => by
    rw [joinB_cons, splitD_front x _ (h x (by simp)), splitD_join (y :: r) (by simp) (fun z hz => h z (by simp [hz]))]
/-- The joined text's first byte. -/
theorem joinB_head {l : List (List UInt8)} (h : ∀ x ∈ l, segB x = true) (hl : l ≠ []) : ∃ c t, joinB l = c :: t ∧ c ≠ 94 ∧ c ≠ 92 := by
  match l, hl with
  | [x], _ =>
    obtain ⟨h1, h2⟩ := segB_mem (h x (by simp))
    match x, h1 with
    | c :: r, _ => exact ⟨c, r, joinB_one _, (h2 c (by simp)).2.1, (h2 c (by simp)).2.2⟩
  | x :: y :: r', _ =>
    obtain ⟨h1, h2⟩ := segB_mem (h x (by simp))
    match x, h1 with
    | c :: r, _ => exact ⟨c, _, joinB_cons _ _ _, (h2 c (by simp)).2.1, (h2 c (by simp)).2.2⟩
theorem pre_rep (n : Nat) (c : UInt8) (t : List UInt8) (h : c ≠ 94) : (List.replicate n 94 ++ c :: t).dropWhile (· == 94) = c :: t ∧ ((List.replicate n 94 ++ c :: t).takeWhile (· == 94)).length = n := by
  induction n with
  | zero => simp [h]
  | succ n ih => rw [List.replicate_succ, List.cons_append]; simp [ih.1, h]
theorem pre_rep0 (n : Nat) : (List.replicate n (94 : UInt8)).dropWhile (· == 94) = [] ∧ ((List.replicate n (94 : UInt8)).takeWhile (· == 94)).length = n := by
  induction n with
  | zero => simp
  | succ n ih => rw [List.replicate_succ]; simp [ih.1, ih.2]
theorem parse_fmt {root : Bool} {up : Int} {l : List (List UInt8)} (h : validB root up l = true) : parOk (fmtV root up l) = true ∧ parRoot (fmtV root up l) = root ∧ parUp (fmtV root up l) = up.toNat ∧ parSegs (fmtV root up l) = l := by
  obtain ⟨h1, h2, h3, h4, h5⟩ := validB_is h
  have hs := validB_segs h
  have e : fmtV root up l = fmtB root up l := by rw [fmtV, if_pos h]
  have key : parRoot (fmtB root up l) = root ∧ parUp (fmtB root up l) = up.toNat ∧ parRest (fmtB root up l) = joinB l := by
    unfold parUp parRest fmtB
    cases root
    · have hr : parRoot (List.replicate up.toNat 94 ++ joinB l) = false := by
        unfold parRoot Lib.hasPrefix
        cases hn : up.toNat with
        | zero =>
          have hl : l ≠ [] := by
            rintro rfl
            simp at h5; omega
          obtain ⟨c, t, e, _, e2⟩ := joinB_head hs hl
          rw [e]; simp [List.isPrefixOf, Ne.symm e2]
        | succ n => rw [List.replicate_succ]; simp [List.isPrefixOf]
      simp only [Bool.false_eq_true, if_false, hr, true_and]
      by_cases hl : l = []
      · subst hl
        rw [joinB_nil, List.append_nil]
        exact ⟨(pre_rep0 _).2, (pre_rep0 _).1⟩
      · obtain ⟨c, t, e, e1, _⟩ := joinB_head hs hl
        rw [e]
        exact ⟨(pre_rep _ c t e1).2, (pre_rep _ c t e1).1⟩
    · have hr : parRoot ([92] ++ joinB l) = true := by simp [parRoot, Lib.hasPrefix, List.isPrefixOf]
      simp only [if_true, hr, true_and]
      refine ⟨by rw [h3 rfl]; rfl, by simp⟩
  obtain ⟨k1, k2, k3⟩ := key
  have k4 : parSegs (fmtB root up l) = l := by
    unfold parSegs
    rw [k3]
    by_cases hl : l = []
    · subst hl; rw [joinB_nil]; rfl
    · obtain ⟨c, t, e, _⟩ := joinB_head hs hl
      rw [if_neg (by rw [e]; simp)]
      exact splitD_join l hl (fun x hx c hc => ((segB_mem (hs x hx)).2 c hc).1)
  rw [e]
  refine ⟨?_, k1, k2, k4⟩
  unfold parOk
  rw [k1, k2, k4]
  rw [Int.toNat_of_nonneg h1]
  exact h
theorem fmtV_len {root : Bool} {up : Int} {l : List (List UInt8)} (h : validB root up l = true) : (fmtV root up l).length ≤ 1000 := by
  obtain ⟨h1, h2, h3, h4, h5⟩ := validB_is h
  have := joinB_valid h
  rw [fmtV, if_pos h, fmtB, List.length_append]
  split <;> simp <;> omega
set_option maxRecDepth 100000 in
set_option maxHeartbeats 2000000 in
theorem roundTrip_walk (p : Value) (root : Bool) (up : Int) (l : List (List UInt8)) (w : World) (m : Int) (hm : w.cell? ⟨0, 0, none⟩ = some (.int .i64 m)) (hp : PathV w p root up l) (hx : ∀ x ∈ l, x.length ≤ 140737488351232) :
    Calls Tryd.prog 5 #[p] w fun e w' => e = .returned (.bool true) ∧ Below w.heap.size w w' := by
  obtain ⟨v, rfl, hs⟩ := hp
  have HA := Lib.hid (BoxAt.start (root := root) (up := up) hs)
  have X := Lib.hid hx
  have X2 := Lib.hid (segV_small hx)
  have HM := Lib.hid (keep0 hm HA.out.2.2 (Nat.le_refl _))
  clear hx hm
  obtain ⟨a, cap, rfl, hcap⟩ := hs.form
  clear hs
  obtain ⟨U, hU⟩ : ∃ U, Hid (upV root up = U) := ⟨_, Lib.hid rfl⟩
  obtain ⟨L, hL⟩ : ∃ L, Hid (pathL l = L) := ⟨_, Lib.hid rfl⟩
  have XL := Lib.hid (pathL_small X.out)
  have XN := Lib.hid (pathL_le l)
  have HP := Lib.hid (path_any _ root up l _ HA.out.pathV X2.out.1 X2.out.2)
  rw [hU.out, hL.out] at HP
  rw [hL.out] at XL XN
  obtain ⟨b0, b1, b2⟩ := HA.out.cells
  go_enter Tryd.func5, Tryd.ntmps5
  go_wp2_with fail
  ((with_reducible refine HP.out.mono ?_))
  rintro e w1 ⟨v1, rfl, ho, hb⟩
  obtain ⟨a1, n1, c1, rfl⟩ := own_slice ho
  obtain ⟨k1, k2⟩ := newBox w1 (pObj root U (.slice a1 n1 c1))
  have HA1 := Lib.hid ((HA.out.below hb).below k1)
  have HM1 := Lib.hid (keep0 (keep0 HM.out hb (Nat.le_refl _)) k1 (Nat.le_refl _))
  have HO1 := Lib.hid (own_below ho k1)
  have HN1 := Lib.hid k2
  clear ho hb k1 k2 HP HA HM b0 b1 b2
  go_upto_region 2 with fail
  generalize (w1.alloc (pObj root U (.slice a1 n1 c1))) = w2 at *
  obtain ⟨V, hV⟩ : ∃ V, Hid (validB root U L = V) := ⟨_, Lib.hid rfl⟩
  obtain ⟨b0, b1, b2⟩ := cells3 HN1.out
  go_wp2_with fail
  ((with_reducible refine (validPath_any _ root U L _ (PathV.mk (StrsAt.of_own HO1.out XN.out)) XL.out).mono ?_))
  rintro e w3 ⟨rfl, hb⟩
  rw [hV.out]
  have HA2 := Lib.hid (HA1.out.below hb)
  have HM2 := Lib.hid (keep0 HM1.out hb (Nat.le_refl _))
  have HO2 := Lib.hid (own_below HO1.out hb)
  have HN2 := Lib.hid (blk_below HN1.out hb)
  clear hb HA1 HM1 HO1 HN1 b0 b1 b2
  cases V
  · go_wp2_with fail
    ((with_reducible refine (awake_any m _ HM2.out).mono ?_))
    rintro e w4 ⟨rfl, hb⟩
    have HA3 := Lib.hid (HA2.out.below hb)
    clear hb
    go_wp2_with fail
    go_ret
    exact ⟨rfl, HA3.out.2.2⟩
  · have HF := Lib.hid (parse_fmt hV.out)
    have HFL := Lib.hid (fmtV_len hV.out)
    obtain ⟨F, hF⟩ : ∃ F, Hid (fmtV root U L = F) := ⟨_, Lib.hid rfl⟩
    rw [hF.out] at HF HFL
    have HUN : Hid (((U.toNat : Nat) : Int) = U) := Lib.hid (Int.toNat_of_nonneg (validB_is hV.out).1)
    obtain ⟨b0, b1, b2⟩ := cells3 HN2.out
    go_wp2_with fail
    ((with_reducible refine (format_any _ root U L _ (PathV.mk (StrsAt.of_own HO2.out XN.out)) XL.out).mono ?_))
    rintro e w4 ⟨rfl, hb⟩
    rw [hF.out]
    have HA3 := Lib.hid (HA2.out.below hb)
    have HM3 := Lib.hid (keep0 HM2.out hb (Nat.le_refl _))
    have HO3 := Lib.hid (own_below HO2.out hb)
    have HN3 := Lib.hid (blk_below HN2.out hb)
    clear hb HA2 HM2 HO2 HN2 b0 b1 b2
    go_wp2_with fail
    ((with_reducible refine (parse_is F root U.toNat L HF.out m _ HM3.out (by have := HFL.out; omega)).mono ?_))
    rintro e w5 ⟨v5, rfl, ho, hb⟩
    rw [HUN.out]
    obtain ⟨a5, n5, c5, rfl⟩ := own_slice ho
    obtain ⟨k1, k2⟩ := newBox w5 (pObj root U (.slice a5 n5 c5))
    have HA4 := Lib.hid ((HA3.out.below hb).below k1)
    have HM4 := Lib.hid (keep0 (keep0 HM3.out hb (Nat.le_refl _)) k1 (Nat.le_refl _))
    have HO4 := Lib.hid (own_below (own_below HO3.out hb) k1)
    have HN4 := Lib.hid (blk_below (blk_below HN3.out hb) k1)
    have HO5 := Lib.hid (own_below ho k1)
    have HN5 := Lib.hid k2
    clear ho hb k1 k2 HA3 HM3 HO3 HN3
    go_upto_region 5 with fail
    generalize (w5.alloc (pObj root U (.slice a5 n5 c5))) = w6 at *
    go_wp2_with fail
    ((with_reducible refine (awake_any m _ HM4.out).mono ?_))
    rintro e w7 ⟨rfl, hb⟩
    have HA5 := Lib.hid (HA4.out.below hb)
    have HO6 := Lib.hid (own_below HO4.out hb)
    have HN6 := Lib.hid (blk_below HN4.out hb)
    have HO7 := Lib.hid (own_below HO5.out hb)
    have HN7 := Lib.hid (blk_below HN5.out hb)
    clear hb HA4 HM4 HO4 HN4 HO5 HN5
    obtain ⟨b0, b1, b2⟩ := cells3 HN6.out
    obtain ⟨d0, d1, d2⟩ := cells3 HN7.out
    go_wp2_with fail
    ((with_reducible refine (same_any _ _ root root U U L L _ (PathV.mk (StrsAt.of_own HO7.out XN.out)) (PathV.mk (StrsAt.of_own HO6.out XN.out))).mono ?_))
    rintro e w8 ⟨rfl, hb⟩
    rw [sameB_self]
    have HA6 := Lib.hid (HA5.out.below hb)
    clear hb
    go_wp2_with fail
    go_ret
    exact ⟨rfl, HA6.out.2.2⟩
end Go.Proofs.YtkalnblbplaheaaDoor
