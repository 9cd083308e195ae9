/- NspathParsesExactly: the walk. -/
import Derived.Test.YtkalnblbplaheaaDoorNte
import Derived.Test.YtkalnblbplaheaaDoorNob
namespace Go.Proofs.YtkalnblbplaheaaDoor
open Go.RowKit
set_option linter.unusedVariables false
set_option linter.unusedSimpArgs false
attribute [local go_sem] ByteArray.mk_append_mk bs_get bs_cut bs_end

set_option maxRecDepth 100000 in
set_option maxHeartbeats 2000000 in
theorem parses_any (s : List UInt8) (m : Int) (w : World) (hm : w.cell? ⟨0, 0, none⟩ = some (.int .i64 m)) (hs : s.length ≤ 1048576) :
    Calls Tryd.prog 14 #[.string ⟨s.toArray⟩] w fun e w' => e = .returned (.bool true) ∧ Below w.heap.size w w' := by
  have HN := Lib.hid (parse_any s m w hm (by omega))
  unfold parPost at HN
  obtain ⟨O, hO⟩ : ∃ O, Hid (parOk s = O) := ⟨_, Lib.hid rfl⟩
  obtain ⟨R, hR⟩ : ∃ R, Hid ((parOk s && parRoot s) = R) := ⟨_, Lib.hid rfl⟩
  obtain ⟨U, hU⟩ : ∃ U : Int, Hid ((if parOk s = true then (parUp s : Int) else 0) = U) := ⟨_, Lib.hid rfl⟩
  obtain ⟨L, hL⟩ : ∃ L, Hid ((if parOk s = true then parSegs s else []) = L) := ⟨_, Lib.hid rfl⟩
  have HLL : Hid (L.length ≤ 32) := Lib.hid (by
    rw [← hL.out]
    split
    · next h => exact (validB_len h).2.2.1
    · simp)
  rw [hR.out, hU.out, hL.out, hO.out] at HN
  have HR2 : Hid (∀ w2, Calls Tryd.prog 37 #[.string ⟨s.toArray⟩] w2 (PPost w2 R U L O)) := Lib.hid (by
    intro w2
    have := rparse_any s w2 hs
    unfold parPost at this
    rw [hR.out, hU.out, hL.out, hO.out] at this
    exact this)
  clear hm
  go_enter Tryd.func14, Tryd.ntmps14
  go_wp2_with fail
  ((with_reducible refine HN.out.mono ?_))
  rintro e w1 ⟨v1, rfl, ho, hb⟩
  obtain ⟨a1, c1, rfl⟩ := own_form ho
  have ST := Lib.hid (((St.start hb).own ho (Nat.le_refl _)).new R U (.slice a1 L.length c1))
  clear ho hb HN
  go_upto_region 2 with fail
  generalize (w1.alloc (pObj R U (.slice a1 L.length c1))) = w2 at *
  go_wp2_with fail
  ((with_reducible refine (HR2.out _).mono ?_))
  rintro e w3 ⟨v3, rfl, ho, hb⟩
  obtain ⟨a3, c3, rfl⟩ := own_form ho
  have ST3 := Lib.hid (((ST.out.below hb).own ho ST.out.size).new R U (.slice a3 L.length c3))
  clear ho hb HR2 ST
  go_upto_region 3 with fail
  generalize (w3.alloc (pObj R U (.slice a3 L.length c3))) = w4 at *
  obtain ⟨c0, c1', c2⟩ := ST3.out.cells (b := w1.heap.size) (r := R) (n := U) (v := .slice a1 L.length c1) (by simp)
  obtain ⟨d0, d1, d2⟩ := ST3.out.cells (b := w3.heap.size) (r := R) (n := U) (v := .slice a3 L.length c3) (by simp)
  cases O
  all_goals
    go_wp2_with fail
    ((with_reducible refine (same_any _ _ R R U U L L _ (PathV.mk (ST3.out.strs (l := L) (v := .slice a1 L.length c1) (by simp) (by have := HLL.out; omega))) (PathV.mk (ST3.out.strs (l := L) (v := .slice a3 L.length c3) (by simp) (by have := HLL.out; omega)))).mono ?_))
    rintro e w5 ⟨rfl, hb⟩
    rw [sameB_self]
    have ST5 := Lib.hid (ST3.out.below hb)
    clear hb ST3
    go_wp2_with fail
    go_ret
    exact ⟨rfl, ST5.out.bel⟩
set_option maxRecDepth 100000 in
set_option maxHeartbeats 4000000 in
theorem exactly_walk (s : List UInt8) (v : Value) (l : List Int) (w : World) (m : Int) (hm : w.cell? ⟨0, 0, none⟩ = some (.int .i64 m)) (hv : BytesAt w v l) (hs : s.length ≤ 1048576) :
    Calls Tryd.prog 4 #[.string ⟨s.toArray⟩, v] w fun e w' => e = .returned (.bool true) ∧ Below w.heap.size w w' := by
  obtain ⟨a, cap, rfl, hl, hc, hb⟩ := hv
  have HC := Lib.hid hc
  have HB := Lib.hid hb
  have HM := Lib.hid hm
  clear hc hb hm
  go_enter Tryd.func4, Tryd.ntmps4
  go_wp2_with fail
  go_loopw [5, 6] (fun z i wr => ∃ (k : Nat) (t : List UInt8), z = .string ⟨t.toArray⟩ ∧ i = .int .i64 k ∧ t.length = k ∧ k ≤ 60 ∧ k ≤ l.length ∧ Hid (∃ n, wr = w.drewN n)) (fun z i _ => 60 - (intOf i).toNat)
  case atStart => exact ⟨0, [], rfl, rfl, rfl, by omega, by omega, Lib.hid ⟨0, rfl⟩⟩
  case round =>
    obtain ⟨k, t, rfl, rfl, ht, hk, hkl, HD⟩ := hrel
    obtain ⟨nd, rfl⟩ := HD.out
    by_cases h1 : k < l.length
    · by_cases h2 : k < 60
      · obtain ⟨b, off, rfl, kk⟩ := HC.out (by rintro rfl; simp at h1)
        have c0 := kk k h1
        have hx := HB.out l[k] (List.getElem_mem h1)
        clear kk
        generalize l[k] = x at *
        obtain ⟨xn, rfl⟩ : ∃ n : Nat, x = n := ⟨x.toNat, by omega⟩
        have hm1 : ((xn : Int).tmod 11) = ((xn % 11 : Nat) : Int) := Int.ofNat_tmod xn 11 |>.symm
        have hm2 : xn % 11 < 11 := Nat.mod_lt _ (by decide)
        go_wp2_with fail
        go_quiet (fail)
        go_wp2_with fail
        refine ⟨⟨k + 1, _, rfl, by go_num, ?_, by omega, by omega, Lib.hid ⟨_, rfl⟩⟩, by simp [intOf]; omega⟩
        simp
        omega
      · obtain rfl : k = 60 := by omega
        have HE : Hid (Below w.heap.size w (w.drewN nd)) := Lib.hid (below_drewN (Below.refl _ _) nd)
        go_wp2_with fail
        ((with_reducible refine (awake_any m _ (keep0 HM.out HE.out (Nat.le_refl _))).mono ?_))
        rintro e w2 ⟨rfl, hb⟩
        have HE2 : Hid (Below w.heap.size w w2) := Lib.hid (bel_then HE.out (Nat.le_refl _) hb)
        clear hb HE
        go_wp2_with fail
        ((with_reducible refine (parses_any s m _ (keep0 HM.out HE2.out (Nat.le_refl _)) hs).mono ?_))
        rintro e w3 ⟨rfl, hb⟩
        have HE3 : Hid (Below w.heap.size w w3) := Lib.hid (bel_then HE2.out (Nat.le_refl _) hb)
        clear hb HE2
        go_wp2_with fail
        ((with_reducible refine (parses_any t m _ (keep0 HM.out HE3.out (Nat.le_refl _)) (by omega)).mono ?_))
        rintro e w4 ⟨rfl, hb⟩
        have HE4 : Hid (Below w.heap.size w w4) := Lib.hid (bel_then HE3.out (Nat.le_refl _) hb)
        clear hb HE3
        go_wp2_with fail
        go_ret
        exact ⟨rfl, HE4.out⟩
    · have HE : Hid (Below w.heap.size w (w.drewN nd)) := Lib.hid (below_drewN (Below.refl _ _) nd)
      go_wp2_with fail
      ((with_reducible refine (awake_any m _ (keep0 HM.out HE.out (Nat.le_refl _))).mono ?_))
      rintro e w2 ⟨rfl, hb⟩
      have HE2 : Hid (Below w.heap.size w w2) := Lib.hid (bel_then HE.out (Nat.le_refl _) hb)
      clear hb HE
      go_wp2_with fail
      ((with_reducible refine (parses_any s m _ (keep0 HM.out HE2.out (Nat.le_refl _)) hs).mono ?_))
      rintro e w3 ⟨rfl, hb⟩
      have HE3 : Hid (Below w.heap.size w w3) := Lib.hid (bel_then HE2.out (Nat.le_refl _) hb)
      clear hb HE2
      go_wp2_with fail
      ((with_reducible refine (parses_any t m _ (keep0 HM.out HE3.out (Nat.le_refl _)) (by omega)).mono ?_))
      rintro e w4 ⟨rfl, hb⟩
      have HE4 : Hid (Below w.heap.size w w4) := Lib.hid (bel_then HE3.out (Nat.le_refl _) hb)
      clear hb HE3
      go_wp2_with fail
      go_ret
      exact ⟨rfl, HE4.out⟩
end Go.Proofs.YtkalnblbplaheaaDoor
