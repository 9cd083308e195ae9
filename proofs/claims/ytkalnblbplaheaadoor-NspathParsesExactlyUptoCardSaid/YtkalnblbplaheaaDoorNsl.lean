/- awake: the walk. -/
import Derived.Test.YtkalnblbplaheaaDoorNsk
namespace Go.Proofs.YtkalnblbplaheaaDoor
open Go.RowKit
set_option linter.unusedVariables false
set_option linter.unusedSimpArgs false
attribute [local go_sem] ByteArray.mk_append_mk bs_get bs_cut bs_end

theorem aw_p1 : parOk [92, 95, 83, 66, 46, 69, 67, 48] = true ∧ parRoot [92, 95, 83, 66, 46, 69, 67, 48] = true ∧ parUp [92, 95, 83, 66, 46, 69, 67, 48] = 0 ∧ parSegs [92, 95, 83, 66, 46, 69, 67, 48] = [[95, 83, 66], [69, 67, 48]] := by decide
theorem aw_p2 : parOk [94, 80, 67, 73, 48] = true ∧ parRoot [94, 80, 67, 73, 48] = false ∧ parUp [94, 80, 67, 73, 48] = 1 ∧ parSegs [94, 80, 67, 73, 48] = [[80, 67, 73, 48]] := by decide
theorem aw_j : joinV true 0 [[95, 83, 66], [69, 67, 48]] false 1 [[80, 67, 73, 48]] = some [[95, 83, 66], [80, 67, 73, 48]] := by decide
theorem aw_f : fmtV true 0 [[95, 83, 66], [80, 67, 73, 48]] = [92, 95, 83, 66, 46, 80, 67, 73, 48] := by decide
theorem aw_c : (candV true 0 [[95, 83, 66], [69, 67, 48]] false 0 [[70, 65, 78]]).length = 3 := by decide
theorem parse_is (s : List UInt8) (root : Bool) (up : Nat) (l : List (List UInt8)) (h : parOk s = true ∧ parRoot s = root ∧ parUp s = up ∧ parSegs s = l) (m : Int) (w : World) (hm : w.cell? ⟨0, 0, none⟩ = some (.int .i64 m)) (hs : s.length ≤ 4000000000) :
    Calls Tryd.prog 16 #[.string ⟨s.toArray⟩] w (PPost w root up l true) := by
  obtain ⟨h1, rfl, rfl, rfl⟩ := h
  have := parse_any s m w hm hs
  unfold parPost at this
  rw [h1] at this
  exact this
/-- The variable of Go's library stays. -/
theorem keep0 {w w' : World} {m : Int} (hm : w.cell? ⟨0, 0, none⟩ = some (.int .i64 m)) {B : Nat} (hb : Below B w w') (hB : w.heap.size ≤ B) : w'.cell? ⟨0, 0, none⟩ = some (.int .i64 m) := by
  have := World.block_lt_of_cell? w _ hm
  rw [hb.cell (p := ⟨0, 0, none⟩) (by show 0 < B; have : 0 < w.heap.size := this; omega)]; exact hm
set_option maxHeartbeats 1000000 in
theorem awake_any (m : Int) (w : World) (hm : w.cell? ⟨0, 0, none⟩ = some (.int .i64 m)) : Calls Tryd.prog 11 #[] w fun e w' => e = .returned (.bool true) ∧ Below w.heap.size w w' := by
  have HM := Lib.hid hm
  clear hm
  have HP1 := Lib.hid (parse_is _ _ _ _ aw_p1 m w HM.out (by decide))
  go_enter Tryd.func11, Tryd.ntmps11
  go_wp2_with fail
  refine HP1.out.mono ?_
  rintro e w1 ⟨v1, rfl, ho, hb⟩
  obtain ⟨a1, n1, c1, rfl⟩ := own_slice ho
  obtain ⟨k1, k2⟩ := newBox w1 (pObj true 0 (.slice a1 n1 c1))
  have HB1 := Lib.hid (bel_then hb (Nat.le_refl _) k1)
  have HO1 := Lib.hid (own_below ho k1)
  have HN1 := Lib.hid k2
  clear ho hb k1 k2 HP1
  go_upto_region 2 with fail
  generalize hw2 : (w1.alloc (pObj true 0 (.slice a1 n1 c1))) = w2 at *
  have HP2 := Lib.hid (parse_is _ _ _ _ aw_p2 m w2 (keep0 HM.out HB1.out (Nat.le_refl _)) (by decide))
  go_wp2_with fail
  refine HP2.out.mono ?_
  rintro e w3 ⟨v2, rfl, ho, hb⟩
  obtain ⟨a2, n2, c2, rfl⟩ := own_slice ho
  obtain ⟨k1, k2⟩ := newBox w3 (pObj false 1 (.slice a2 n2 c2))
  have hb2 := bel_then hb (Nat.le_refl _) k1
  have HB2 := Lib.hid (bel_then HB1.out (Nat.le_refl _) hb2)
  have HO1' := Lib.hid (own_below HO1.out hb2)
  have HN1' := Lib.hid (blk_below HN1.out hb2)
  have HO2 := Lib.hid (own_below ho k1)
  have HN2 := Lib.hid k2
  clear ho hb k1 k2 HP2 hb2 HO1 HN1 HB1 hw2
  go_upto_region 3 with fail
  generalize (w3.alloc (pObj false 1 (.slice a2 n2 c2))) = w4 at *
  have HJ := Lib.hid (join_any _ _ true false 0 1 _ _ w4 (PathV.mk (StrsAt.of_own HO1'.out (by simp))) (PathV.mk (StrsAt.of_own HO2.out (by simp))) (by simp) (by simp))
  rw [aw_j] at HJ
  obtain ⟨d0, d1, d2⟩ := cells3 HN1'.out
  obtain ⟨e0, e1, e2⟩ := cells3 HN2.out
  go_wp2_with fail
  refine HJ.out.mono ?_
  rintro e w5 ⟨v3, rfl, ho, hb⟩
  obtain ⟨a3, n3, c3, rfl⟩ := own_slice ho
  obtain ⟨k1, k2⟩ := newBox w5 (pObj true 0 (.slice a3 n3 c3))
  have hb2 := bel_then hb (Nat.le_refl _) k1
  have HB3 := Lib.hid (bel_then HB2.out (Nat.le_refl _) hb2)
  have HO1 := Lib.hid (own_below HO1'.out hb2)
  have HN1 := Lib.hid (blk_below HN1'.out hb2)
  have HO3 := Lib.hid (own_below ho k1)
  have HN3 := Lib.hid k2
  clear ho hb k1 k2 HJ hb2 HO1' HN1' HB2 HO2 HN2 d0 d1 d2 e0 e1 e2
  go_upto_region 4 with fail
  generalize (w5.alloc (pObj true 0 (.slice a3 n3 c3))) = w6 at *
  have HF := Lib.hid (format_any _ true 0 _ w6 (PathV.mk (StrsAt.of_own HO3.out (by simp))) (by simp))
  rw [show (some [[95, 83, 66], [80, 67, 73, 48]] : Option (List (List UInt8))).getD [] = [[95, 83, 66], [80, 67, 73, 48]] from rfl, aw_f] at HF
  obtain ⟨d0, d1, d2⟩ := cells3 HN3.out
  go_wp2_with fail
  refine HF.out.mono ?_
  rintro e w7 ⟨rfl, hb⟩
  have HB4 := Lib.hid (bel_then HB3.out (Nat.le_refl _) hb)
  have HO4 := Lib.hid (own_below HO1.out hb)
  have HN4 := Lib.hid (blk_below HN1.out hb)
  clear hb HF HO3 HN3 HO1 HN1 HB3 d0 d1 d2
  obtain ⟨d0, d1, d2⟩ := cells3 HN4.out
  obtain ⟨k1, k2⟩ := newBox w7 (.cells #[.string ⟨#[70, 65, 78]⟩] 9)
  have HO5 : Hid ((w7.alloc (.cells #[.string ⟨#[70, 65, 78]⟩] 9)).ownsRow 0 9 1 (.slice (some ⟨w7.heap.size, 0, none⟩) 1 1) 1 ([[70, 65, 78]].map strV)) := Lib.hid (own_cells w7 0 (Nat.zero_le _) [[70, 65, 78]] 1 rfl (by simp))
  have HB5 := Lib.hid (bel_then HB4.out (Nat.le_refl _) k1)
  have HC := Lib.hid (candidates_any _ _ true false 0 0 _ _ _ (PathV.mk (StrsAt.of_own (own_below HO4.out k1) (by simp))) (PathV.mk (StrsAt.of_own (l := [[70, 65, 78]]) HO5.out (by simp))) (by simp) (by simp))
  clear k1 k2 HB4 HO4 HO5
  go_wp2_with fail
  refine HC.out.mono ?_
  rintro e w8 ⟨v4, rfl, ho, hb⟩
  obtain ⟨a4, c4, rfl⟩ := ho.form
  rw [aw_c]
  have HB6 := Lib.hid (bel_then HB5.out (Nat.le_refl _) hb)
  clear ho hb HC
  go_wp2_with fail
  go_ret
  exact ⟨rfl, HB6.out⟩
end Go.Proofs.YtkalnblbplaheaaDoor
