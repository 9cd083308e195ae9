/- strconv.FormatUint at base 10, Itoa: the walks. -/
import Derived.Test.YteifmjhkedhomaaDoorUb
import Derived.Lib.AppendIntMem
import Derived.Lib.Walk
namespace Go.Proofs.YteifmjhkedhomaaDoor
open Go.Shelf Go.RowKit Go.Sort
set_option linter.unusedVariables false
set_option linter.unusedSimpArgs false

def Pow10 (w : World) : Prop := Lib.TabIs Tryd.prog w "internal/strconv.uint64pow10" .u64 Lib.pow10Tab
theorem pow10_below {B : Nat} {w w' : World} (h : Pow10 w) (hb : Below B w w') (hB : 1 < B) : Pow10 w' := by
  have hg : Tryd.prog.globalNamed "internal/strconv.uint64pow10" = some 1 := by kernel_rfl
  unfold Pow10 Lib.TabIs World.var? at h ⊢
  simp only [hg, Option.bind_some] at h ⊢
  rw [hb.block _ hB]
  exact h
theorem pow10_lt {w : World} (h : Pow10 w) : 1 < w.heap.size := by
  have hg : Tryd.prog.globalNamed "internal/strconv.uint64pow10" = some 1 := by kernel_rfl
  unfold Pow10 Lib.TabIs World.var? at h
  simp only [hg, Option.bind_some] at h
  rcases Nat.lt_or_ge 1 w.heap.size with h' | h'
  · exact h'
  · rw [Array.getElem?_eq_none h'] at h
    simp at h
set_option maxRecDepth 100000 in
set_option maxHeartbeats 4000000 in
theorem fmt10i_any (u : Nat) (w : World) (hu64 : u < 18446744073709551616) (htab : Pow10 w) :
    Calls Tryd.prog 53 #[.int .u64 u, .int .i64 10] w fun e w' => e = .returned (.string ⟨(Lib.decDigits u).toArray⟩) ∧ Below w.heap.size w w' := by
  by_cases h100 : (u : Int) < 100
  · have hu : u < 100 := by omega
    go_enter Tryd.func53, Tryd.ntmps53
    go_wp2_with fail
    ((with_reducible refine (Tryd.internal_strconv_small u hu _).mono ?_))
    rintro e w' ⟨rfl, rfl⟩
    go_wp2_with fail
    go_ret
    exact ⟨rfl, Below.refl _ _⟩
  · have hu1 : 1 ≤ u := by omega
    have hnd20 : Lib.nDigits u ≤ 20 := by have := Lib.numDigits_eq u hu1 hu64; split at this <;> omega
    have hb3 : Lib.nDigits u ≤ 24 := by omega
    have hal : Tryd.prog.arrayLen 89 = 24 := by kernel_rfl
    have hsl1 : ∀ W, (Instr.sliceAt 89 (.pointer (some ⟨w.heap.size, 0, none⟩)) none (some (.int .i64 (Lib.nDigits u : Int))) none).run Tryd.prog W = .ok (.slice (some ⟨w.heap.size, 0, none⟩) (Lib.nDigits u) 24) W := fun W => by
      rw [run_sliceAt_array_h W 89 ⟨w.heap.size, 0, none⟩ (by simp [Program.arrayLen, Program.elem, Tryd.underlying89]) .i64 (Lib.nDigits u : Int) (by omega) (by rw [hal]; omega)]
      rw [hal]
      go_simp
    have hH0 := Lib.holds_zero0 w 89 (Lib.nDigits u) (by omega)
    have hfmt := Tryd.internal_strconv_formatBase10 w.heap.size 0 24 u (Array.replicate (Lib.nDigits u) 0) (w.alloc (.cells Lib.zeros24 89)) hH0 (by rw [Array.size_replicate]; exact Lib.lt_pow_nDigits u) hu64 (by rw [Array.size_replicate]; omega)
    rw [Array.size_replicate] at hfmt
    have HH0 := Lib.hid hH0
    have HFM := Lib.hid hfmt
    have HND := Lib.hid (Tryd.internal_strconv_numDigits u hu1 hu64 _ (Lib.tabIs_alloc htab (.cells Lib.zeros24 89)))
    clear hH0 hal hfmt
    go_enter Tryd.func53, Tryd.ntmps53
    go_wp2_with fail
    refine HND.out.mono ?_
    rintro e w' ⟨rfl, rfl⟩
    go_wp2_with fail
    refine HFM.out.mono ?_
    rintro e w' ⟨rfl, k, v', dk, rfl, hF⟩
    have hcv : (convert 58 9 (.slice (some ⟨w.heap.size, 0, none⟩) (Lib.nDigits u) 24)).run Tryd.prog ((putRow (fun (b : UInt8) => Value.int .u8 (b.toNat : Int)) (w.alloc (.cells Lib.zeros24 89)) w.heap.size 0 dk).drewN k) = .ok (.string ⟨(Lib.decDigits u).toArray⟩) ((putRow (fun (b : UInt8) => Value.int .u8 (b.toNat : Int)) (w.alloc (.cells Lib.zeros24 89)) w.heap.size 0 dk).drewN k) := by
      have h := run_convert_bytes_back (P := Tryd.prog) ((putRow (fun (b : UInt8) => Value.int .u8 (b.toNat : Int)) (w.alloc (.cells Lib.zeros24 89)) w.heap.size 0 dk).drewN k) 58 9 5 ⟨w.heap.size, 0, none⟩ 24 (Lib.decDigits u) Tryd.underlying58 Tryd.underlying5 Tryd.underlying9 (fun j hj => by
        rw [Lib.row_is_numeral hF j hj, Lib.add_plain, World.cell?_drewN]
        exact cell?_putRow (fun (b : UInt8) => Value.int .u8 (b.toNat : Int)) _ w.heap.size 0 _ dk HH0.out (by rw [hF.size, Array.size_replicate]) j (by rw [hF.size]; rw [Lib.decDigits_length] at hj; exact hj))
      rw [Lib.decDigits_length] at h
      exact h
    go_wp2_with fail
    go_ret
    obtain ⟨os, eo⟩ := Lib.fin_at w (.cells Lib.zeros24 89) dk k 0
    exact ⟨rfl, by rw [eo]; exact Lib.below_grow _ _ (Nat.le_refl _) _ _⟩
theorem fmt10_any (u : Nat) (w : World) (hu64 : u < 18446744073709551616) (htab : Pow10 w) :
    Calls Tryd.prog 25 #[.int .u64 u, .int .i64 10] w fun e w' => e = .returned (.string ⟨(Lib.decDigits u).toArray⟩) ∧ Below w.heap.size w w' := by
  have KB := Lib.hid (fmt10i_any u w hu64 htab)
  go_enter Tryd.func25, Tryd.ntmps25
  go_wp2_with fail
  ((with_reducible refine KB.out.mono ?_))
  rintro e w2 ⟨rfl, hb⟩
  have HB := Lib.hid hb
  clear hb
  go_wp2_with fail
  go_ret
  exact ⟨rfl, HB.out⟩
theorem itoa_any (u : Nat) (w : World) (hu : u ≤ 255) (htab : Pow10 w) :
    Calls Tryd.prog 30 #[.int .i64 u] w fun e w' => e = .returned (.string ⟨(Lib.decDigits u).toArray⟩) ∧ Below w.heap.size w w' :=
  (Tryd.strconv_Itoa u (by omega) (by omega) w htab).mono fun e w' ⟨he, k, os, hw⟩ => ⟨by rw [he, Lib.itoa_nonneg], by rw [hw]; exact Lib.below_grow _ _ (Nat.le_refl _) _ _⟩
end Go.Proofs.YteifmjhkedhomaaDoor
