/- NspathFormats: the walk. -/
import Derived.Test.YtkalnblbplaheaaDoorNsp
namespace Go.Proofs.YtkalnblbplaheaaDoor
open Go.RowKit
set_option linter.unusedVariables false
set_option linter.unusedSimpArgs false
attribute [local go_sem] ByteArray.mk_append_mk bs_get bs_cut bs_end

theorem segV_small {l : List (List UInt8)} (hx : ∀ x ∈ l, x.length ≤ 140737488351232) : (∀ x ∈ l, x.length ≤ 9223372036854775000) ∧ (∀ x ∈ l, (segV x).length ≤ 9223372036854775000) :=
  ⟨fun x h => Nat.le_trans (hx x h) (by omega), fun x h => Nat.le_trans (segV_len x) (by have := hx x h; omega)⟩
theorem pathL_small {l : List (List UInt8)} (hx : ∀ x ∈ l, x.length ≤ 140737488351232) : ∀ x ∈ pathL l, x.length ≤ 9223372036854775000 :=
  fun x h => Nat.le_trans (pathK_mem l _ hx _ x h) (by omega)
theorem pathL_le (l : List (List UInt8)) : (pathL l).length ≤ 9223372036854775000 := by rw [pathL_len]; omega
set_option maxRecDepth 100000 in
set_option maxHeartbeats 2000000 in
theorem formats_walk (p : Value) (root : Bool) (up : Int) (l : List (List UInt8)) (w : World) (m : Int) (hm : w.cell? ⟨0, 0, none⟩ = some (.int .i64 m)) (hp : PathV w p root up l) (hx : ∀ x ∈ l, x.length ≤ 140737488351232) :
    Calls Tryd.prog 3 #[p] w fun e w' => e = .returned (.bool true) ∧ Below w.heap.size w w' := by
  obtain ⟨v, rfl, hs⟩ := hp
  have HA := Lib.hid (BoxAt.start (root := root) (up := up) hs)
  have X := Lib.hid hx
  have X2 := Lib.hid (segV_small hx)
  have HM := Lib.hid (keep0 hm HA.out.2.2 (Nat.le_refl _))
  clear hx hm
  obtain ⟨a, cap, rfl, hcap⟩ := hs.form
  clear hs
  by_cases h100 : (100 : Int) < (l.length : Int)
  all_goals
    go_enter Tryd.func3, Tryd.ntmps3
    go_wp2_with fail
    ((with_reducible refine (awake_any m _ HM.out).mono ?_))
    rintro e w1 ⟨rfl, hb⟩
    have HA1 := Lib.hid (HA.out.below hb)
    clear hb HA HM
    obtain ⟨b0, b1, b2⟩ := HA1.out.cells
    go_wp2_with fail
  · ((with_reducible refine (path_any _ root up l _ HA1.out.pathV X2.out.1 X2.out.2).mono ?_))
    rintro e w2 ⟨v2, rfl, ho, hb⟩
    have HA2 := Lib.hid (HA1.out.below hb)
    have HO := Lib.hid ho
    clear hb ho
    go_wp2_with fail
    ((with_reducible refine (agrees_any _ root _ _ _ (PathV.mk (StrsAt.of_own HO.out (pathL_le l))) (pathL_small X.out)).mono ?_))
    rintro e w3 ⟨rfl, hb⟩
    have HA3 := Lib.hid (HA2.out.below hb)
    clear hb
    go_wp2_with fail
    go_ret
    exact ⟨rfl, HA3.out.2.2⟩
  · ((with_reducible refine (agrees_any _ root _ _ _ HA1.out.pathV X2.out.1).mono ?_))
    rintro e w2 ⟨rfl, hb⟩
    have HA2 := Lib.hid (HA1.out.below hb)
    clear hb HA1 b0 b1 b2
    obtain ⟨b0, b1, b2⟩ := HA2.out.cells
    go_wp2_with fail
    ((with_reducible refine (path_any _ root up l _ HA2.out.pathV X2.out.1 X2.out.2).mono ?_))
    rintro e w2 ⟨v2, rfl, ho, hb⟩
    have HA3 := Lib.hid (HA2.out.below hb)
    have HO := Lib.hid ho
    clear hb ho
    go_wp2_with fail
    ((with_reducible refine (agrees_any _ root _ _ _ (PathV.mk (StrsAt.of_own HO.out (pathL_le l))) (pathL_small X.out)).mono ?_))
    rintro e w3 ⟨rfl, hb⟩
    have HA4 := Lib.hid (HA3.out.below hb)
    clear hb
    go_wp2_with fail
    go_ret
    exact ⟨rfl, HA4.out.2.2⟩
end Go.Proofs.YtkalnblbplaheaaDoor
