/- EqualFunc over paths: the walk. -/
import Derived.Test.YtkalnblbplaheaaDoorNsp
namespace Go.Proofs.YtkalnblbplaheaaDoor
open Go.RowKit
set_option linter.unusedVariables false
set_option linter.unusedSimpArgs false
attribute [local go_sem] ByteArray.mk_append_mk bs_get bs_cut bs_end

theorem PsOwn.at {w : World} {B : Nat} {v : Value} {ls : List (List (List UInt8))} (h : PsOwn w B v ls) (hn : ls ≠ []) : ∃ g cap, v = .slice (some ⟨g, 0, none⟩) ls.length cap ∧ g < w.heap.size ∧
    ∀ k (hk : k < ls.length), ∃ vk, w.cell? ⟨g, k * 3, none⟩ = some (.bool true) ∧ w.cell? ⟨g, k * 3 + 1, none⟩ = some (.int .i64 0) ∧ w.cell? ⟨g, k * 3 + 2, none⟩ = some vk ∧ w.ownsRow B 9 1 vk ls[k].length (ls[k].map strV) := by
  obtain ⟨vs, h1, ⟨h2, h2'⟩, h3⟩ := h
  rcases h2' with ⟨rfl, h0⟩ | ⟨g, cap, cur, rfl, hB, hg, hn1, hm, hs, ht⟩
  · exact absurd (List.eq_nil_of_length_eq_zero h0) hn
  · refine ⟨g, cap, rfl, lt_of_block hg, fun k hk => ?_⟩
    obtain ⟨e0, e1, e2⟩ := segCells_get vs k (by omega)
    rw [Nat.mul_comm 3 k] at e0 e1 e2
    have hh : ∀ j, j < ls.length * 3 → (segCells vs)[j]? = cur[j]? := by
      intro j hj
      rw [← ht, List.getElem?_take, if_pos hj, Array.getElem?_toList]
    refine ⟨vs[k], ?_, ?_, ?_, h3 k (by omega) hk⟩
    · rw [cell_of_row w g (k * 3) cur _ _ hg, ← hh _ (by omega), e0]
    · rw [cell_of_row w g (k * 3 + 1) cur _ _ hg, ← hh _ (by omega), e1]
    · rw [cell_of_row w g (k * 3 + 2) cur _ _ hg, ← hh _ (by omega), e2]
set_option maxRecDepth 100000 in
set_option maxHeartbeats 2000000 in
theorem equalF_yes (va vb : Value) (ls : List (List (List UInt8))) (B1 B2 : Nat) (w : World) (h1 : PsOwn w B1 va ls) (h2 : PsOwn w B2 vb ls) (hl : ls.length ≤ 1000) (hx : ∀ l ∈ ls, l.length ≤ 1000) :
    Calls Tryd.prog 22 #[va, vb, .func (.func 18) #[] #[]] w fun e w' => e = .returned (.bool true) ∧ Below w.heap.size w w' := by
  by_cases hn : ls = []
  · subst hn
    obtain ⟨a1, c1, rfl⟩ := h1.form
    obtain ⟨a2, c2, rfl⟩ := h2.form
    clear h1 h2 hx hl
    go_enter Tryd.func22, Tryd.ntmps22
    go_wp2_with fail
    refine wp_loop_rounds 1 ?_
    rw [rounds_succ]
    go_wp2_with fail
    go_ret
    exact ⟨rfl, Below.refl _ _⟩
  · obtain ⟨g1, c1, rfl, hg1, k1⟩ := h1.at hn
    obtain ⟨g2, c2, rfl, hg2, k2⟩ := h2.at hn
    have K1 := Lib.hid k1
    have K2 := Lib.hid k2
    have G1 := Lib.hid hg1
    have G2 := Lib.hid hg2
    have X := Lib.hid hx
    have HB := Lib.hid (Below.refl w.heap.size w)
    clear h1 h2 k1 k2 hg1 hg2 hx hn
    go_enter Tryd.func22, Tryd.ntmps22
    go_wp2_with fail
    go_loopw [7] (fun i wr => ∃ k : Nat, i = .int .i64 k ∧ k ≤ ls.length ∧ Hid (Below w.heap.size w wr)) (fun i _ => ls.length - (intOf i).toNat)
    case atStart => exact ⟨0, rfl, Nat.zero_le _, HB⟩
    case round =>
      obtain ⟨k, rfl, hk, HW⟩ := hrel
      obtain ⟨w1, rfl⟩ : ∃ x : World, x = wr := ⟨_, rfl⟩
      clear HB
      by_cases hlt : k < ls.length
      · obtain ⟨v1, a0, a1, a2, o1⟩ := K1.out k hlt
        obtain ⟨v2, b0, b1, b2, o2⟩ := K2.out k hlt
        obtain ⟨r1, r2, r3, rfl⟩ := own_slice o1
        obtain ⟨s1, s2, s3, rfl⟩ := own_slice o2
        have hb := HW.out
        have ga := G1.out
        have gb := G2.out
        have m0 : ∀ x, Grows w1 x → x.cell? ⟨g1, k * 3, none⟩ = some (.bool true) := fun x h => ((bel_then hb (Nat.le_refl _) h).cell (p := ⟨g1, _, none⟩) ga).trans a0
        have m1 : ∀ x, Grows w1 x → x.cell? ⟨g1, k * 3 + 1, none⟩ = some (.int .i64 0) := fun x h => ((bel_then hb (Nat.le_refl _) h).cell (p := ⟨g1, _, none⟩) ga).trans a1
        have m2 : ∀ x, Grows w1 x → x.cell? ⟨g1, k * 3 + 2, none⟩ = some (.slice r1 r2 r3) := fun x h => ((bel_then hb (Nat.le_refl _) h).cell (p := ⟨g1, _, none⟩) ga).trans a2
        have n0 : ∀ x, Grows w1 x → x.cell? ⟨g2, k * 3, none⟩ = some (.bool true) := fun x h => ((bel_then hb (Nat.le_refl _) h).cell (p := ⟨g2, _, none⟩) gb).trans b0
        have n1 : ∀ x, Grows w1 x → x.cell? ⟨g2, k * 3 + 1, none⟩ = some (.int .i64 0) := fun x h => ((bel_then hb (Nat.le_refl _) h).cell (p := ⟨g2, _, none⟩) gb).trans b1
        have n2 : ∀ x, Grows w1 x → x.cell? ⟨g2, k * 3 + 2, none⟩ = some (.slice s1 s2 s3) := fun x h => ((bel_then hb (Nat.le_refl _) h).cell (p := ⟨g2, _, none⟩) gb).trans b2
        have HO1 := Lib.hid (own_below o1 (bel_then hb (Nat.le_refl _) (Grows.self w1)))
        have HO2 := Lib.hid (own_below o2 (bel_then hb (Nat.le_refl _) (Grows.self w1)))
        have HXL : Hid (ls[k].length ≤ 9223372036854775000) := Lib.hid (by have := X.out _ (List.getElem_mem hlt); omega)
        clear a0 a1 a2 b0 b1 b2 o1 o2 hb ga gb
        generalize ls[k] = l at *
        go_upto_region 6 with fail
        refine wp_region_plan (Grows w1) 11 [.reads [0, 1, 2, 3, 4, 5, 6, 7, 8], .act 9, .reads [10]] (by kernel_rfl) (by kernel_rfl) (by kernel_rfl) (by kernel_rfl) (by kernel_rfl) (fun _ _ d _ _ h => by cases d <;> exact h) (Grows.self _) ?_
        refine wpPlan_reads ?_
        simp only [pickOps, List.drop_succ_cons, List.drop_zero, List.take_succ_cons, List.take_zero, List.cons_append, List.nil_append]
        repeat (go_big_quiet_step (first | (intro hb; rw [m0 _ hb]; simp only [Result.andThen]; rw [m1 _ hb]; simp only; rw [m2 _ hb]; exact ⟨rfl, rfl⟩) | (intro hb; rw [n0 _ hb]; simp only [Result.andThen]; rw [n1 _ hb]; simp only; rw [n2 _ hb]; exact ⟨rfl, rfl⟩)))
        refine wpQuiet_nil ?_
        clear m0 m1 m2 n0 n1 n2
        refine wpPlan_act rfl ?_
        simp only [pickOps, List.drop_succ_cons, List.drop_zero, List.take_succ_cons, List.take_zero, List.cons_append, List.nil_append]
        go_wp2_with fail
        ((with_reducible refine (same_any _ _ true true 0 0 l l _ (PathV.mk (StrsAt.of_own HO1.out HXL.out)) (PathV.mk (StrsAt.of_own HO2.out HXL.out))).mono ?_))
        rintro e w2 ⟨rfl, hb⟩
        rw [sameB_self]
        have HG := Lib.hid ((Grows.self w1).trans hb)
        have HW2 := Lib.hid (bel_then HW.out (Nat.le_refl _) (growB HG.out))
        clear hb HO1 HO2
        go_wp2_with fail
        refine ⟨fun _ => HG.out, ?_⟩
        refine wpPlan_reads ?_
        simp only [pickOps, List.drop_succ_cons, List.drop_zero, List.take_succ_cons, List.take_zero, List.cons_append, List.nil_append]
        repeat (go_big_quiet_step (fail))
        refine wpQuiet_nil (wpPlan_nil ?_)
        go_wp2_with fail
        go_roundw
        case rel => exact ⟨k + 1, by go_num, by omega, HW2⟩
        case measure => simp [intOf]; omega
      · obtain rfl : k = ls.length := by omega
        go_wp2_with fail
        go_ret
        exact ⟨rfl, HW.out⟩
end Go.Proofs.YtkalnblbplaheaaDoor
