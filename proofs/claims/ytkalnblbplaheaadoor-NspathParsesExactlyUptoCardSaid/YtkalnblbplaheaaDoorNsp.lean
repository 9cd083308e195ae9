/- agrees: the walk. -/
import Derived.Test.YtkalnblbplaheaaDoorNso
namespace Go.Proofs.YtkalnblbplaheaaDoor
open Go.RowKit
set_option linter.unusedVariables false
set_option linter.unusedSimpArgs false
attribute [local go_sem] ByteArray.mk_append_mk bs_get bs_cut bs_end

theorem sameB_self (r : Bool) (u : Int) (l : List (List UInt8)) : sameB r u l r u l = true := by simp [sameB]
theorem growB {w x : World} (h : Grows w x) : Below w.heap.size w x := h
/-- A block's three cells in every world that grew. -/
theorem grow3 {W : World} {b t : Nat} {c0 c1 c2 : Value} (h : W.heap[b]? = some (.cells #[c0, c1, c2] t (0, 0))) : (∀ x, Grows W x → x.cell? ⟨b, 0, none⟩ = some c0) ∧ (∀ x, Grows W x → x.cell? ⟨b, 1, none⟩ = some c1) ∧ (∀ x, Grows W x → x.cell? ⟨b, 2, none⟩ = some c2) :=
  ⟨fun _ hx => (cells3 (blk_below h hx)).1, fun _ hx => (cells3 (blk_below h hx)).2.1, fun _ hx => (cells3 (blk_below h hx)).2.2⟩
set_option maxRecDepth 100000 in
set_option maxHeartbeats 2000000 in
theorem agrees_any (p : Value) (root : Bool) (up : Int) (l : List (List UInt8)) (w : World) (hp : PathV w p root up l) (hx : ∀ x ∈ l, x.length ≤ 9223372036854775000) :
    Calls Tryd.prog 12 #[p] w fun e w' => e = .returned (.bool true) ∧ Below w.heap.size w w' := by
  obtain ⟨v, rfl, hs⟩ := hp
  have HA := Lib.hid (BoxAt.start (root := root) (up := up) hs)
  have X := Lib.hid hx
  clear hx
  obtain ⟨a, cap, rfl, hcap⟩ := hs.form
  clear hs
  have HN := Lib.hid (parent_any _ root up l _ HA.out.pathV X.out)
  obtain ⟨R, hR⟩ : ∃ R, Hid (parR root up l = R) := ⟨_, Lib.hid rfl⟩
  obtain ⟨L, hL⟩ : ∃ L, Hid ((if parR root up l = true then l.dropLast else []) = L) := ⟨_, Lib.hid rfl⟩
  obtain ⟨V, hV⟩ : ∃ V, Hid (validB root up l = V) := ⟨_, Lib.hid rfl⟩
  obtain ⟨F, hF⟩ : ∃ F, Hid (fmtV root up l = F) := ⟨_, Lib.hid rfl⟩
  have HLL : Hid (L.length ≤ 9223372036854775000) := Lib.hid (by
    rw [← hL.out]
    have := HA.out.strs
    obtain ⟨_, _, _, h, _⟩ := this
    split <;> simp <;> omega)
  rw [hL.out, hR.out] at HN
  obtain ⟨b0, b1, b2⟩ := HA.out.cells
  go_enter Tryd.func12, Tryd.ntmps12
  go_wp2_with fail
  ((with_reducible refine HN.out.mono ?_))
  rintro e w1 ⟨v1, rfl, ho, hb⟩
  obtain ⟨a1, n1, c1, rfl⟩ := own_slice ho
  obtain ⟨k1, k2⟩ := newBox w1 (pObj R 0 (.slice a1 n1 c1))
  have HA1 := Lib.hid ((HA.out.below hb).below k1)
  have HO1 := Lib.hid (own_below ho k1)
  have HN1 := Lib.hid k2
  clear ho hb k1 k2 HN HA b0 b1 b2
  go_upto_region 2 with fail
  generalize (w1.alloc (pObj R 0 (.slice a1 n1 c1))) = w2 at *
  have HN := Lib.hid (rparent_any _ root up l _ HA1.out.pathV X.out)
  rw [hL.out, hR.out] at HN
  obtain ⟨b0, b1, b2⟩ := HA1.out.cells
  go_wp2_with fail
  ((with_reducible refine HN.out.mono ?_))
  rintro e w3 ⟨v2, rfl, ho, hb⟩
  obtain ⟨a2, n2, c2, rfl⟩ := own_slice ho
  obtain ⟨k1, k2⟩ := newBox w3 (pObj R 0 (.slice a2 n2 c2))
  have HA2 := Lib.hid ((HA1.out.below hb).below k1)
  have HO2 := Lib.hid (own_below (own_below HO1.out hb) k1)
  have HN2 := Lib.hid (blk_below (blk_below HN1.out hb) k1)
  have HO3 := Lib.hid (own_below ho k1)
  have HN3 := Lib.hid k2
  clear ho hb k1 k2 HN HA1 HO1 HN1 b0 b1 b2
  go_upto_region 3 with fail
  generalize (w3.alloc (pObj R 0 (.slice a2 n2 c2))) = w4 at *
  obtain ⟨k0, k1, k2⟩ := grow3 HA2.out.1
  obtain ⟨ma0, ma1, ma2⟩ := grow3 HN2.out
  obtain ⟨mb0, mb1, mb2⟩ := grow3 HN3.out
  refine wp_region_plan (Grows w4) 22 [.reads [0, 2], .act 1, .act 3, .reads [4, 5, 6, 8], .act 7, .act 9, .reads [10, 11, 12, 13, 14], .act 15, .reads [16, 17, 18, 19, 20, 21], .act 22] (by kernel_rfl) (by kernel_rfl) (by kernel_rfl) (by kernel_rfl) (by kernel_rfl) (fun _ _ d _ _ h => by cases d <;> exact h) (Grows.self _) ?_
  have HG := Lib.hid (Grows.self w4)
  refine wpPlan_reads ?_
  simp only [pickOps, List.drop_succ_cons, List.drop_zero, List.take_succ_cons, List.take_zero, List.cons_append, List.nil_append]
  repeat (go_big_quiet_step (first | (intro hb; rw [k0 _ hb]; simp only [Result.andThen]; rw [k1 _ hb]; simp only; rw [k2 _ hb]; exact ⟨rfl, rfl⟩) | (intro hb; rw [ma0 _ hb]; simp only [Result.andThen]; rw [ma1 _ hb]; simp only; rw [ma2 _ hb]; exact ⟨rfl, rfl⟩) | (intro hb; rw [mb0 _ hb]; simp only [Result.andThen]; rw [mb1 _ hb]; simp only; rw [mb2 _ hb]; exact ⟨rfl, rfl⟩)))
  refine wpQuiet_nil ?_
  refine wpPlan_act rfl ?_
  simp only [pickOps, List.drop_succ_cons, List.drop_zero, List.take_succ_cons, List.take_zero, List.cons_append, List.nil_append]
  go_wp2_with fail
  ((with_reducible refine (nsValid_any _ root up l _ (HA2.out.below (growB HG.out)).pathV X.out).mono ?_))
  rintro e wx ⟨rfl, hb⟩
  rw [hV.out]
  have HG2 := Lib.hid (HG.out.trans hb)
  clear hb HG
  have HG := HG2
  clear HG2
  go_wp2_with fail
  refine ⟨fun _ => HG.out, ?_⟩
  refine wpPlan_act rfl ?_
  simp only [pickOps, List.drop_succ_cons, List.drop_zero, List.take_succ_cons, List.take_zero, List.cons_append, List.nil_append]
  go_wp2_with fail
  ((with_reducible refine (validPath_any _ root up l _ (HA2.out.below (growB HG.out)).pathV X.out).mono ?_))
  rintro e wx ⟨rfl, hb⟩
  rw [hV.out]
  have HG2 := Lib.hid (HG.out.trans hb)
  clear hb HG
  have HG := HG2
  clear HG2
  go_wp2_with fail
  refine ⟨fun _ => HG.out, ?_⟩
  refine wpPlan_reads ?_
  simp only [pickOps, List.drop_succ_cons, List.drop_zero, List.take_succ_cons, List.take_zero, List.cons_append, List.nil_append]
  repeat (go_big_quiet_step (first | (intro hb; rw [k0 _ hb]; simp only [Result.andThen]; rw [k1 _ hb]; simp only; rw [k2 _ hb]; exact ⟨rfl, rfl⟩) | (intro hb; rw [ma0 _ hb]; simp only [Result.andThen]; rw [ma1 _ hb]; simp only; rw [ma2 _ hb]; exact ⟨rfl, rfl⟩) | (intro hb; rw [mb0 _ hb]; simp only [Result.andThen]; rw [mb1 _ hb]; simp only; rw [mb2 _ hb]; exact ⟨rfl, rfl⟩)))
  refine wpQuiet_nil ?_
  refine wpPlan_act rfl ?_
  simp only [pickOps, List.drop_succ_cons, List.drop_zero, List.take_succ_cons, List.take_zero, List.cons_append, List.nil_append]
  go_wp2_with fail
  ((with_reducible refine (format_any _ root up l _ (HA2.out.below (growB HG.out)).pathV X.out).mono ?_))
  rintro e wx ⟨rfl, hb⟩
  rw [hF.out]
  have HG2 := Lib.hid (HG.out.trans hb)
  clear hb HG
  have HG := HG2
  clear HG2
  go_wp2_with fail
  refine ⟨fun _ => HG.out, ?_⟩
  refine wpPlan_act rfl ?_
  simp only [pickOps, List.drop_succ_cons, List.drop_zero, List.take_succ_cons, List.take_zero, List.cons_append, List.nil_append]
  go_wp2_with fail
  ((with_reducible refine (formatPath_any _ root up l _ (HA2.out.below (growB HG.out)).pathV X.out).mono ?_))
  rintro e wx ⟨rfl, hb⟩
  rw [hF.out]
  have HG2 := Lib.hid (HG.out.trans hb)
  clear hb HG
  have HG := HG2
  clear HG2
  go_wp2_with fail
  refine ⟨fun _ => HG.out, ?_⟩
  refine wpPlan_reads ?_
  simp only [pickOps, List.drop_succ_cons, List.drop_zero, List.take_succ_cons, List.take_zero, List.cons_append, List.nil_append]
  repeat (go_big_quiet_step (first | (intro hb; rw [k0 _ hb]; simp only [Result.andThen]; rw [k1 _ hb]; simp only; rw [k2 _ hb]; exact ⟨rfl, rfl⟩) | (intro hb; rw [ma0 _ hb]; simp only [Result.andThen]; rw [ma1 _ hb]; simp only; rw [ma2 _ hb]; exact ⟨rfl, rfl⟩) | (intro hb; rw [mb0 _ hb]; simp only [Result.andThen]; rw [mb1 _ hb]; simp only; rw [mb2 _ hb]; exact ⟨rfl, rfl⟩)))
  refine wpQuiet_nil ?_
  refine wpPlan_act rfl ?_
  simp only [pickOps, List.drop_succ_cons, List.drop_zero, List.take_succ_cons, List.take_zero, List.cons_append, List.nil_append]
  go_wp2_with fail
  ((with_reducible refine (same_any _ _ R R 0 0 L L _ (PathV.mk (StrsAt.of_own (own_below HO2.out (growB HG.out)) HLL.out)) (PathV.mk (StrsAt.of_own (own_below HO3.out (growB HG.out)) HLL.out))).mono ?_))
  rintro e wx ⟨rfl, hb⟩
  rw [sameB_self]
  have HG2 := Lib.hid (HG.out.trans hb)
  clear hb HG
  have HG := HG2
  clear HG2
  go_wp2_with fail
  refine ⟨fun _ => HG.out, ?_⟩
  refine wpPlan_reads ?_
  simp only [pickOps, List.drop_succ_cons, List.drop_zero, List.take_succ_cons, List.take_zero, List.cons_append, List.nil_append]
  repeat (go_big_quiet_step (first | (intro hb; rw [k0 _ hb]; simp only [Result.andThen]; rw [k1 _ hb]; simp only; rw [k2 _ hb]; exact ⟨rfl, rfl⟩) | (intro hb; rw [ma0 _ hb]; simp only [Result.andThen]; rw [ma1 _ hb]; simp only; rw [ma2 _ hb]; exact ⟨rfl, rfl⟩) | (intro hb; rw [mb0 _ hb]; simp only [Result.andThen]; rw [mb1 _ hb]; simp only; rw [mb2 _ hb]; exact ⟨rfl, rfl⟩)))
  refine wpQuiet_nil ?_
  refine wpPlan_act rfl ?_
  simp only [pickOps, List.drop_succ_cons, List.drop_zero, List.take_succ_cons, List.take_zero, List.cons_append, List.nil_append]
  go_wp2_with fail
  refine ⟨fun h => absurd h (by decide), wpPlan_nil ?_⟩
  go_wp2_with fail
  go_ret
  exact ⟨rfl, (HA2.out.below HG.out).2.2⟩
end Go.Proofs.YtkalnblbplaheaaDoor
