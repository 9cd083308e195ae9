/- slices.Grow, slices.Concat of two: the walks. -/
import Derived.Test.YtkalnblbplaheaaDoorNsb
import Derived.Shelf.Spec.SlicesGrow
namespace Go.Proofs.YtkalnblbplaheaaDoor
open Go.RowKit
set_option linter.unusedVariables false
attribute [local go_sem] ByteArray.mk_append_mk bs_get bs_cut bs_end

def growRen : Go.Shelf.Ren := ⟨fun | 4 => 65 | n => n, fun | 0 => 0 | 3 => 3 | 4 => 4 | 9 => 9 | 20 => 20 | 22 => 22 | 25 => 9 | n => n, fun | n => n⟩
theorem growLays : Go.Proofs.Lays8.n4 Tryd.prog growRen := {
  mixed := by kernel_rfl
  f4 := ⟨Tryd.f65.name, by kernel_rfl, Tryd.func65.trans (congrArg some (by kernel_rfl))⟩
  t0 := Tryd.underlying0
  a0 := Tryd.isAgg0
  z0 := Tryd.sizeOf0
  v0 := Tryd.zeroValue0
  t3 := Tryd.underlying3
  a3 := Tryd.isAgg3
  z3 := Tryd.sizeOf3
  v3 := Tryd.zeroValue3
  t4 := Tryd.underlying4
  a4 := Tryd.isAgg4
  z4 := Tryd.sizeOf4
  v4 := Tryd.zeroValue4
  t9 := Tryd.underlying9
  a9 := Tryd.isAgg9
  z9 := Tryd.sizeOf9
  v9 := Tryd.zeroValue9
  t20 := Tryd.underlying20
  a20 := Tryd.isAgg20
  z20 := Tryd.sizeOf20
  v20 := Tryd.zeroValue20
  t22 := Tryd.underlying22
  a22 := Tryd.isAgg22
  z22 := Tryd.sizeOf22
  v22 := Tryd.zeroValue22 }
theorem grow_nil (n : Nat) (w : World) (hn : n ≤ 1000000) : Calls Tryd.prog 65 #[.slice none 0 0, .int .i64 n] w fun e w' => ∃ v, e = .returned v ∧ w'.ownsRow w.heap.size 9 1 v 0 [] ∧ Below w.heap.size w w' := by
  obtain ⟨i0, hi, hz0, hz1, hz2⟩ := info_parts infoStr
  by_cases h0 : n = 0
  · subst h0
    exact (Any8.slices_Grow_room growLays none 0 0 0 w (by omega) (by omega) (by omega) (by omega)).mono fun e w' ⟨he, hw⟩ => ⟨_, he, own_nil _ _, hw ▸ Below.refl _ _⟩
  · refine (Any8.slices_Grow_grow growLays i0 (.string ⟨#[]⟩) hi hz0 (by omega) none 0 0 n [] w (by omega) (by omega) (by rw [hz2]; omega) (by omega) (by simp) (fun _ => rfl) (fun a h => by cases h)).mono fun e w' ⟨he, hw⟩ => ?_
    subst hw
    have hge := grownCap_ge w (0 + n) 0 9
    have hle := grownCap_le_maxLen w (0 + n) 0 9 (by unfold maxLen; omega)
    refine ⟨_, he, ⟨rfl, .inr ⟨w.heap.size, grownCap w (0 + n) 0 9, _, rfl, Nat.le_refl _, heap_alloc_new w.drew _, Nat.zero_le _, hle, ?_, rfl⟩⟩, ((Below.refl _ _).drew).alloc (Nat.le_refl _) _⟩
    simp only [Array.size_append, size_zeroCells, List.size_toArray, List.length_nil]
    have e : (Value.string ⟨#[]⟩).cells.size = 1 := rfl
    show 0 + (0 + n - 0) * (Value.string ⟨#[]⟩).cells.size + (grownCap w (0 + n) 0 9 - (0 + n)) * (Value.string ⟨#[]⟩).cells.size = _
    rw [e]
    omega
/-- What has been joined after j of the two. -/
def accL (l1 l2 : List (List UInt8)) : Nat → List (List UInt8)
  | 0 => []
  | 1 => l1
  | _ => l1 ++ l2
theorem own_row {w : World} {B e z : Nat} {v : Value} {n : Nat} {xs : List Value} (h : w.ownsRow B e z v n xs) {k : Nat} (hk : v.ownBlock = some k) : B ≤ k := by
  rcases h.2 with ⟨rfl, _⟩ | ⟨g, cap, cur, rfl, hg, _⟩
  · cases hk
  · injection hk with hk; subst hk; exact hg
set_option maxRecDepth 100000 in
set_option maxHeartbeats 2000000 in
theorem concat_any (b : Nat) (v1 v2 : Value) (l1 l2 : List (List UInt8)) (w : World) (hc0 : w.cell? ⟨b, 0, none⟩ = some v1) (hc1 : w.cell? ⟨b, 1, none⟩ = some v2) (h1 : StrsAt w v1 l1) (h2 : StrsAt w v2 l2) (hl : l1.length + l2.length ≤ 1000000) :
    Calls Tryd.prog 47 #[.slice (some ⟨b, 0, none⟩) 2 2] w (SPost w (l1 ++ l2)) := by
  have H1 := Lib.hid h1
  have H2 := Lib.hid h2
  have HC0 := Lib.hid hc0
  have HC1 := Lib.hid hc1
  have HBL : Hid (b < w.heap.size) := Lib.hid (World.block_lt_of_cell? w ⟨b, 0, none⟩ hc0)
  obtain ⟨a1, cap1, rfl, _⟩ := h1.form
  obtain ⟨a2, cap2, rfl, _⟩ := h2.form
  clear h1 h2
  go_enter Tryd.func47, Tryd.ntmps47
  go_wp2_with fail
  go_loop [3, 11] (fun p q => ∃ j : Nat, j ≤ 2 ∧ q = .int .i64 j ∧ p = .int .i64 ((accL l1 l2 j).length : Nat)) (fun _ q => 2 - (intOf q).toNat)
  case atStart => exact ⟨0, by omega, rfl, rfl⟩
  case round =>
    obtain ⟨j, hj, rfl, rfl⟩ := hrel
    have hj3 : j = 0 ∨ j = 1 ∨ j = 2 := by omega
    clear hj
    rcases hj3 with rfl | rfl | rfl
    · have e1 : (((accL l1 l2 0).length : Nat) : Int) = 0 := rfl
      rw [e1]
      clear e1
      go_wp2_with fail
      go_round
      case rel => exact ⟨1, by omega, rfl, by simp [accL]⟩
      case measure => simp [intOf]
    · have e1 : (accL l1 l2 1).length = l1.length := rfl
      rw [e1]
      clear e1
      go_wp2_with fail
      go_round
      case rel => exact ⟨2, by omega, rfl, by simp [accL]⟩
      case measure => simp [intOf]
    · have e1 : (accL l1 l2 2).length = l1.length + l2.length := by simp [accL]
      rw [e1]
      clear e1
      obtain ⟨n, hn⟩ : ∃ n : Nat, l1.length + l2.length = n := ⟨_, rfl⟩
      rw [hn] at hl ⊢
      have HNN := Lib.hid hn
      clear hn
      go_wp2_with fail
      ((with_reducible refine (grow_nil n _ hl).mono ?_))
      rintro e w1 ⟨v, rfl, ho, hb⟩
      have HO := Lib.hid ho
      have HB := Lib.hid hb
      clear ho hb hc0 hc1
      go_wp2_with fail
      go_loopw [6, 27] (fun p q wr => ∃ j : Nat, j ≤ 2 ∧ q = .int .i64 j ∧ Hid (wr.ownsRow w.heap.size 9 1 p (accL l1 l2 j).length ((accL l1 l2 j).map strV)) ∧ Hid (Below w.heap.size w wr)) (fun _ q _ => 2 - (intOf q).toNat)
      case atStart => exact ⟨0, by omega, rfl, HO, HB⟩
      case round =>
        obtain ⟨j, hj, rfl, HO2, HB2⟩ := hrel
        rename_i vr _
        clear HO HB
        have hj3 : j = 0 ∨ j = 1 ∨ j = 2 := by omega
        clear hj
        have hc0 := (HB2.out.cell (p := ⟨b, 0, none⟩) HBL.out).trans HC0.out
        have hc1 := (HB2.out.cell (p := ⟨b, 1, none⟩) HBL.out).trans HC1.out
        have K1 := Lib.hid (H1.out.below HB2.out)
        have K2 := Lib.hid (H2.out.below HB2.out)
        rcases hj3 with rfl | rfl | rfl
        · obtain ⟨a0, m0, c0, rfl⟩ := own_slice HO2.out
          go_wp2_with (at_builtin; refine wpList_append_strs rfl _ _ rfl w.heap.size _ [] rfl HO2.out (.slice a1 l1.length cap1) l1 rfl K1.out (by rw [List.length_nil]; have := HNN.out; omega) HB2.out.size ?_; intro v3 w3 ho hg; have HO3 := Lib.hid ho; have HB3 := Lib.hid (HB2.out.grown hg HB2.out.size (fun k h => own_row HO2.out h)); clear ho hg)
          go_roundw
          case rel => exact ⟨1, by omega, rfl, HO3, HB3⟩
          case measure => simp [intOf]
        · obtain ⟨a0, m0, c0, rfl⟩ := own_slice HO2.out
          go_wp2_with (at_builtin; refine wpList_append_strs rfl _ _ rfl w.heap.size _ l1 rfl HO2.out (.slice a2 l2.length cap2) l2 rfl K2.out (by have := HNN.out; omega) HB2.out.size ?_; intro v3 w3 ho hg; have HO3 := Lib.hid ho; have HB3 := Lib.hid (HB2.out.grown hg HB2.out.size (fun k h => own_row HO2.out h)); clear ho hg)
          go_roundw
          case rel => exact ⟨2, by omega, rfl, HO3, HB3⟩
          case measure => simp [intOf]
        · obtain ⟨a0, m0, c0, rfl⟩ := own_slice HO2.out
          go_wp2_with fail
          go_ret
          exact ⟨_, rfl, HO2.out, HB2.out⟩
end Go.Proofs.YtkalnblbplaheaaDoor
