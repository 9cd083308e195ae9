/- The walks of the statements about events: GpeValidatesSize. -/
import Derived.Test.YtdgeocmcmcflfaaDoorAwake
namespace Go.Proofs.YtdgeocmcmcflfaaDoor
open Go.RowKit

theorem info4 : (Tryd.prog.info? 4).map (fun i => (i.zero, i.size, i.bytes)) = some (some (.bool false), 1, 1) := by kernel_rfl

theorem bools_made {w : World} {g n : Nat} {B : Nat} (h : w.ownsRow B 4 1 (.slice (some ⟨g, 0, none⟩) n n) n (madeCells (Value.bool false).cells (n * 1)).toList) : BoolsAt w g 0 (List.replicate n false) := by
  intro i hi
  rw [List.length_replicate] at hi
  have h1 := h.cellAt i (by omega)
  rw [Nat.mul_one, show (madeCells (Value.bool false).cells n).toList = List.replicate n (.bool false) from toList_madeCells_one _ _, List.getElem?_replicate, if_pos hi] at h1
  rw [Nat.zero_add, List.getElem_replicate]
  exact h1

theorem own_lt {w : World} {g n cap B e size : Nat} {xs : List Value} (h : w.ownsRow B e size (.slice (some ⟨g, 0, none⟩) n cap) n xs) : g < w.heap.size := by
  rcases h.2 with ⟨h', _⟩ | ⟨g', cap', cur, h', _, hg, _⟩
  · cases h'
  · simp only [Value.slice.injEq, Option.some.injEq, Addr.mk.injEq, and_true, true_and] at h'
    obtain ⟨rfl, rfl⟩ := h'
    rcases Nat.lt_or_ge g w.heap.size with h' | h'
    · exact h'
    · rw [Array.getElem?_eq_none h'] at hg; cases hg

set_option maxHeartbeats 1000000 in
theorem law_size (v : Int) (w : World) (hT : Tab w) (h0 : 0 < w.heap.size) :
    Calls Tryd.prog 3 #[.int .i64 v] w fun e w' => e = .returned (.bool true) ∧ Below w.heap.size w w' := by
  have HT := Lib.hid hT
  clear hT
  obtain ⟨i0, hi, hz0, hz1, hz2⟩ := info_parts info4
  go_enter Tryd.func3, Tryd.ntmps3
  go_wp2_with fail
  refine (mod_any v 192 _ (by omega) (by omega)).mono ?_
  rintro e w1 ⟨r, hr0, hr1, rfl, rfl⟩
  obtain ⟨n, rfl⟩ := Int.eq_ofNat_of_zero_le hr0
  go_wp2_with (at_make; refine wpList_make_full _ rfl _ _ 27 rfl w.heap.size 4 i0 (.bool false) 1 Tryd.underlying27 hi hz0 hz1 .i64 .i64 _ _ n rfl rfl rfl rfl (by rw [hz2]; omega) (by unfold maxLen; omega) (Nat.le_refl _) ?_; intro w1 hown hgrow)
  have hbel : Hid (Below w.heap.size w w1) := Lib.hid ((Below.refl _ _).grown hgrow (Nat.le_refl _) (fun _ h => by cases h))
  have HO := Lib.hid hown
  have hsz : Hid (w.heap.size < w1.heap.size) := Lib.hid (own_lt hown)
  clear hown hgrow
  by_cases h : n < 1 ∨ 64 < n
  · refine (new_no _ n n _ h (by omega)).mono ?_
    rintro e w2 ⟨rfl, rfl⟩
    go_wp2_with fail
    refine (awake_any _ (HT.out.below h0 hbel.out) (by have := hbel.out.size; omega)).mono ?_
    rintro e w3 ⟨rfl, hb3⟩
    rcases h with h | h
    · obtain rfl : n = 0 := by omega
      go_wp2_with fail
      go_ret
      exact ⟨rfl, hbel.out.trans (hb3.mono hbel.out.size)⟩
    · have q1 : decide ((1 : Int) ≤ n) = true := by simp; omega
      have q2 : decide ((n : Int) ≤ 64) = false := by simp; omega
      go_wp2_with fail
      go_ret
      exact ⟨rfl, hbel.out.trans (hb3.mono hbel.out.size)⟩
  · refine (Calls.mono (by
      have := new_yes w.heap.size 0 (List.replicate n false) n w1 (bools_made HO.out) hsz.out (by simp; omega) (by simp; omega)
      rw [List.length_replicate] at this
      exact this) ?_)
    rintro e w2 ⟨rfl, hg2, hb2⟩
    have hb2' : Hid (Below w.heap.size w w2) := Lib.hid (hbel.out.trans (hb2.mono hbel.out.size))
    clear hg2 hb2
    go_wp2_with fail
    refine (awake_any _ (HT.out.below h0 hb2'.out) (by have := hb2'.out.size; omega)).mono ?_
    rintro e w3 ⟨rfl, hb3⟩
    have q1 : decide ((1 : Int) ≤ n) = true := by simp; omega
    have q2 : decide ((n : Int) ≤ 64) = true := by simp; omega
    go_wp2_with fail
    go_ret
    exact ⟨rfl, hb2'.out.trans (hb3.mono hb2'.out.size)⟩
end Go.Proofs.YtdgeocmcmcflfaaDoor
