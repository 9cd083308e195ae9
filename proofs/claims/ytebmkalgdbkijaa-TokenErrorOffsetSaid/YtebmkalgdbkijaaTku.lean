/- pieces, TokenScansExactly: the walks. -/
import Derived.Test.YtebmkalgdbkijaaTkt
namespace Go.Proofs.Ytebmkalgdbkijaa
open Go.RowKit
set_option linter.unusedVariables false
set_option linter.unusedSimpArgs false
attribute [local go_sem] ByteArray.mk_append_mk bs_get bs_cut bs_end

def allP : List (List UInt8) := [[78, 97, 109, 101], [95, 83, 66], [65], [65, 66, 67, 68], [46], [92], [94], [40], [41], [123], [125], [44], [32], [10], [48], [55], [49, 48], [48, 120], [48, 120, 70, 102], [49, 56, 52, 52, 54, 55, 52, 52, 48, 55, 51, 55, 48, 57, 53, 53, 49, 54, 49, 53], [34], [34, 97, 34], [34, 92, 120, 48, 65, 92, 34, 34], [47, 47, 32, 99, 10], [47, 42, 32, 42, 32, 42, 47], [47, 42], [101], [95], [9], [57, 122], [127], [47]]
def pieceL (c : UInt8) : List UInt8 := allP.getD (c.toNat % 32) []
/-- The first pieces, put together. -/
def piecesL (l : List UInt8) (k : Nat) : List UInt8 := (l.take k).flatMap pieceL
theorem piecesL_succ {l : List UInt8} {k : Nat} (h : k < l.length) : piecesL l (k + 1) = piecesL l k ++ pieceL l[k] := by
  unfold piecesL
  rw [List.take_succ_eq_append_getElem h, List.flatMap_append]
  simp
theorem pieceL_len (c : UInt8) : (pieceL c).length ≤ 20 := by
  have h : ∀ k : Fin 32, (allP.getD k.val []).length ≤ 20 := by decide +kernel
  exact h ⟨c.toNat % 32, Nat.mod_lt _ (by decide)⟩
theorem piecesL_len (l : List UInt8) : ∀ k : Nat, (piecesL l k).length ≤ 20 * k := by
  intro k
  induction k with
  | zero => simp [piecesL]
  | succ k ih =>
    by_cases h : k < l.length
    · rw [piecesL_succ h, List.length_append]
      have := pieceL_len l[k]
      omega
    · have e : piecesL l (k + 1) = piecesL l k := by unfold piecesL; rw [List.take_of_length_le (by omega), List.take_of_length_le (by omega)]
      rw [e]; omega
theorem all_cell (w : World) (k : Nat) (hk : k < 32) : (w.alloc (.cells (allP.map strV').toArray 9)).cell? ⟨w.heap.size, k, none⟩ = some (strV' (allP.getD k [])) := by
  rw [cell_of_row _ _ k _ 9 (0, 0) (heap_alloc_new _ _)]
  have h : k < allP.length := hk
  simp [List.getD, h]
theorem rem32 (c : UInt8) : (c.toNat : Int).tmod 32 = ((c.toNat % 32 : Nat) : Int) := by
  rw [Int.tmod_eq_emod_of_nonneg (by omega)]; omega
set_option maxRecDepth 100000 in
set_option maxHeartbeats 4000000 in
theorem pieces_any (v : Value) (l : List UInt8) (w : World) (hv : BArg w v l) : Calls Try.prog 8 #[v] w fun e w' => e = .returned (strV' (piecesL l 60)) ∧ Below w.heap.size w w' := by
  have HV := Lib.hid hv
  obtain ⟨a, cap, rfl, hl, hc⟩ := hv
  clear hc
  go_enter Try.func8, Try.ntmps8
  go_wp2_with fail
  go_loopw [4, 5] (fun z i wr => ∃ (k : Nat) (x : List UInt8), z = .string ⟨x.toArray⟩ ∧ i = .int .i64 k ∧ k ≤ l.length ∧ k ≤ 60 ∧ x.length ≤ 20 * k ∧ Hid (x = piecesL l k) ∧ Hid (∀ j, j < 32 → wr.cell? ⟨w.heap.size, j, none⟩ = some (strV' (allP.getD j []))) ∧ Hid (Below w.heap.size w wr)) (fun _ i _ => 60 - (intOf i).toNat)
  case atStart => exact ⟨0, [], rfl, rfl, by omega, by omega, by simp, Lib.hid rfl, Lib.hid (all_cell w), Lib.hid ((Below.refl _ _).alloc (Nat.le_refl _) _)⟩
  case round =>
    obtain ⟨k, x, rfl, rfl, hk, hk60, hx, HX, HA, HB⟩ := hrel
    obtain ⟨w1, rfl⟩ : ∃ y : World, y = wr := ⟨_, rfl⟩
    by_cases h60 : (k : Int) < 60
    · by_cases hlt : (k : Int) < (l.length : Int)
      · have hlt' : k < l.length := by omega
        obtain ⟨a', cap', hv', _, hc⟩ := HV.out.below HB.out
        injection hv' with e1 _ e2
        subst e1 e2
        obtain ⟨b, off, rfl, hcell⟩ := hc (by rintro rfl; simp at hlt')
        have c := hcell k hlt'
        have HX2 : Hid (x ++ pieceL l[k] = piecesL l (k + 1)) := Lib.hid (by rw [HX.out, piecesL_succ hlt'])
        have hp := pieceL_len l[k]
        have hr := rem32 l[k]
        have c2 := HA.out (l[k].toNat % 32) (Nat.mod_lt _ (by decide))
        rw [show allP.getD (l[k].toNat % 32) [] = pieceL l[k] from rfl] at c2
        unfold strV' at c2
        obtain ⟨P, hP⟩ : ∃ P, pieceL l[k] = P := ⟨_, rfl⟩
        rw [hP] at c2 HX2 hp
        have hm : l[k].toNat % 32 < 32 := Nat.mod_lt _ (by decide)
        generalize l[k].toNat % 32 = M at *
        have hc0 := l[k].toNat_lt
        clear hcell hc hP
        generalize l[k] = q at *
        go_wp2_with fail
        go_roundw
        case rel => exact ⟨k + 1, x ++ P, by simp, by go_num, by omega, by omega, by rw [List.length_append]; omega, HX2, HA, HB⟩
        case measure => simp [intOf]; omega
      · have hx2 : Hid (x = piecesL l 60) := Lib.hid (by rw [HX.out]; unfold piecesL; rw [List.take_of_length_le (by omega), List.take_of_length_le (by omega)])
        go_wp2_with fail
        go_ret
        exact ⟨by rw [← hx2.out]; rfl, HB.out⟩
    · have hx2 : Hid (x = piecesL l 60) := Lib.hid (by rw [HX.out, show k = 60 by omega])
      go_wp2_with fail
      all_goals go_ret
      all_goals exact ⟨by rw [← hx2.out]; rfl, HB.out⟩
set_option maxRecDepth 100000 in
set_option maxHeartbeats 4000000 in
theorem law_scans (s : List UInt8) (v : Value) (l : List UInt8) (m : Int) (w : World) (hs : s.length ≤ 4611686018427380000) (hv : BArg w v l) (hm : w.cell? ⟨0, 0, none⟩ = some (.int .i64 m)) :
    Calls Try.prog 3 #[.string ⟨s.toArray⟩, v] w fun e w' => e = .returned (.bool true) ∧ Below w.heap.size w w' := by
  have HV := Lib.hid hv
  have HM := Lib.hid hm
  clear hv hm
  go_enter Try.func3, Try.ntmps3
  go_wp2_with fail
  ((with_reducible refine (awake_any m _ HM.out).mono ?_))
  rintro e w2 ⟨rfl, hb⟩
  have HB := Lib.hid hb
  have HM2 := Lib.hid (max_below HM.out hb)
  clear hb
  go_wp2_with fail
  ((with_reducible refine (agrees_any s m _ hs HM2.out).mono ?_))
  rintro e w3 ⟨rfl, hb⟩
  have HB3 := Lib.hid (bel_then HB.out (Nat.le_refl _) hb)
  have HM3 := Lib.hid (max_below HM2.out hb)
  clear hb HB HM2
  go_wp2_with fail
  ((with_reducible refine (pieces_any v l _ (HV.out.below HB3.out)).mono ?_))
  rintro e w4 ⟨rfl, hb⟩
  have HB4 := Lib.hid (bel_then HB3.out (Nat.le_refl _) hb)
  have HM4 := Lib.hid (max_below HM3.out hb)
  clear hb HB3 HM3
  unfold strV'
  go_wp2_with fail
  ((with_reducible refine (agrees_any (piecesL l 60) m _ (by have := piecesL_len l 60; omega) HM4.out).mono ?_))
  rintro e w5 ⟨rfl, hb⟩
  have HB5 := Lib.hid (bel_then HB4.out (Nat.le_refl _) hb)
  clear hb HB4 HM4
  go_wp2_with fail
  go_ret
  exact ⟨rfl, HB5.out⟩
end Go.Proofs.Ytebmkalgdbkijaa
