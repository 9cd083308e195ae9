/- The sanity check of the statements about events returns true; small contracts for literals. -/
import Derived.Test.YtdgeocmcmcflfaaDoorGpe2
namespace Go.Proofs.YtdgeocmcmcflfaaDoor
open Go.RowKit

theorem Tab.grown {w w' : World} {b : Nat} (h : Tab w) (hb : 0 < b) (h0 : 0 < w.heap.size) (g : w.grownBy w' (some b)) : Tab w' := by
  intro j hj
  rw [← h j hj]
  exact World.cell?_of_block (w := w) (g.block 0 h0 (by simp; omega))
theorem Tab.below {w w' : World} {B : Nat} (h : Tab w) (hB : 0 < B) (g : Below B w w') : Tab w' := by
  intro j hj
  rw [← h j hj]
  exact g.cell hB

theorem mod_val (u n : Int) (hn : 1 ≤ n) (hn' : n ≤ 9223372036854775807) : 0 ≤ wrap64 (u % n) ∧ wrap64 (u % n) < n := by
  have h1 := Int.emod_nonneg u (show n ≠ 0 by omega)
  have h2 := Int.emod_lt_of_pos u (show 0 < n by omega)
  rw [IntWalk.wrap64_in _ ⟨by omega, by omega⟩]
  exact ⟨h1, h2⟩

theorem mod_any (v n : Int) (w : World) (hn : 1 ≤ n) (hn' : n ≤ 9223372036854775807) :
    Calls Tryd.prog 8 #[.int .i64 v, .int .i64 n] w fun e w' => ∃ r : Int, 0 ≤ r ∧ r < n ∧ e = .returned (.int .i64 r) ∧ w = w' := by
  have h0 : (n == 0) = false := by rw [beq_eq_false_iff_ne]; omega
  have hu : IntKind.u64.wrap n = n := IntWalk.u64_in _ ⟨by omega, by omega⟩
  have hv : 0 ≤ IntKind.u64.wrap v := by rw [IntKind.wrap_u64]; omega
  obtain ⟨m1, m2⟩ := mod_val (IntKind.u64.wrap v) n hn hn'
  go_enter Tryd.func8, Tryd.ntmps8
  go_wp2
  go_ret
  exact ⟨_, m1, m2, rfl, rfl⟩

set_option maxHeartbeats 1000000 in
theorem awake_any (w : World) (hT : Tab w) (h0 : 0 < w.heap.size) : Calls Tryd.prog 10 #[] w fun e w' => e = .returned (.bool true) ∧ Below w.heap.size w w' := by
  have HT := Lib.hid hT
  clear hT
  go_enter Tryd.func10, Tryd.ntmps10
  go_wp2_with fail
  refine (new_yes w.heap.size 0 [false, false] 2 _ ?_ (by simp) (by decide) (by decide)).mono ?_
  · intro i hi
    match i, hi with
    | 0, _ => simp [go_sem]
    | 1, _ => simp [go_sem]
  rintro e w1 ⟨rfl, hg1, hb1⟩
  have hB : (w.alloc (Obj.cells #[Value.bool false, Value.bool false] 4)).heap.size = w.heap.size + 1 := by simp
  have hbel1 : Below w.heap.size w w1 := Below.trans ((Below.refl _ _).alloc (Nat.le_refl _) _) (hb1.mono (by rw [hB]; omega))
  have hT1 : Tab w1 := HT.out.below h0 hbel1
  rw [hB] at hg1 hb1
  have hs1 : w.heap.size + 1 < w1.heap.size := hg1.lt
  have H1 : Hid (GpeAt w1 (w.heap.size + 1) [newEv false, newEv false]) := Lib.hid hg1
  have HT1 := Lib.hid hT1
  have HB1 := Lib.hid hbel1
  clear hg1 hb1 hB HT hT1 hbel1
  go_wp2_with fail
  refine (set_yes _ 1 _ (newEv false) true _ H1.out rfl).mono ?_
  rintro e w2 ⟨rfl, hg2, hr2⟩
  have H2 : Hid (GpeAt w2 (w.heap.size + 1) [newEv false, ⟨false, true, true, false, false, false⟩]) := Lib.hid hg2
  have HR2 := Lib.hid hr2
  clear hg2 hr2
  go_wp2_with fail
  refine (enable_yes _ 1 _ ⟨false, true, true, false, false, false⟩ true _ H2.out rfl).mono ?_
  rintro e w3 ⟨rfl, hg3, hr3⟩
  have H3 : Hid (GpeAt w3 (w.heap.size + 1) [newEv false, ⟨false, true, true, true, false, false⟩]) := Lib.hid hg3
  have HR3 := Lib.hid (grown_trans HR2.out hr3)
  clear hg3 hr3 HR2 H2 H1
  have hT3 : Hid (Tab w3) := Lib.hid (HT1.out.grown (by omega) (by omega) HR3.out)
  go_wp2_with fail
  refine (next_some _ 1 _ _ H3.out hT3.out rfl).mono ?_
  rintro e w4 ⟨rfl, n4, rfl⟩
  go_wp2_with fail
  refine (begin_yes _ 1 _ false true true false false true _ (H3.out.drewN n4) rfl rfl).mono ?_
  rintro e w5 ⟨rfl, hg5, hr5⟩
  have H5 : Hid (GpeAt w5 (w.heap.size + 1) [newEv false, ⟨false, true, false, true, false, true⟩]) := Lib.hid hg5
  have HR5 := Lib.hid (grown_trans (grown_trans HR3.out (grown_drewN _ _ n4)) hr5)
  clear hg5 hr5
  rw [show evName false 1 = [95, 69, 48, 49] from rfl]
  go_wp2_with fail
  refine (status_yes _ 1 _ ⟨false, true, false, true, false, true⟩ _ H5.out rfl).mono ?_
  rintro e w6 ⟨rfl, n6, rfl⟩
  go_wp2_with fail
  refine (complete_yes _ 1 _ false true false true false _ (H5.out.drewN n6) rfl).mono ?_
  rintro e w7 ⟨rfl, _, hr7⟩
  have HR7 := Lib.hid (grown_trans (grown_trans HR5.out (grown_drewN _ _ n6)) hr7)
  clear hr7
  go_wp2_with fail
  go_ret
  exact ⟨rfl, HB1.out.grown HR7.out HB1.out.size (fun k hk => by simp at hk; omega)⟩
end Go.Proofs.YtdgeocmcmcflfaaDoor
