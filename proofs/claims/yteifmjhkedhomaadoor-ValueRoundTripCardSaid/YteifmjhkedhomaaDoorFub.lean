/- strconv.FormatUint at base 16: the walk. -/
import Derived.Test.YteifmjhkedhomaaDoorTla
import Derived.Test.YteifmjhkedhomaaDoorByt
namespace Go.Proofs.YteifmjhkedhomaaDoor
open Go.RowKit
set_option linter.unusedVariables false
set_option linter.unusedSimpArgs false
attribute [local go_sem] ByteArray.mk_append_mk bs_get bs_cut bs_end

/-- The table's cell that is read for 16. -/
def Tz16 (w : World) : Prop := w.cell? ⟨6, 15, none⟩ = some (.int .u8 4)
theorem pow16_any (w : World) : Calls Tryd.prog 84 #[.int .i64 16] w fun e w' => e = .returned (.bool true) ∧ w = w' := by
  have h : bits .and .i64 16 15 = 0 := by decide
  go_enter Tryd.func84, Tryd.ntmps84
  go_wp2_with fail
  go_ret
  exact ⟨rfl, rfl⟩
theorem tz16_any (w : World) (hT : Tz16 w) : Calls Tryd.prog 90 #[.int .u64 16] w fun e w' => e = .returned (.int .i64 4) ∧ w = w' := by
  unfold Tz16 at hT
  have hk : IntKind.u64.wrap (bits .and .u64 16 (IntKind.u64.wrap (-16)) * 285870213051353865) / 288230376151711744 = 15 := by decide +kernel
  go_enter Tryd.func90, Tryd.ntmps90
  go_wp2_with fail
  go_ret
  exact ⟨rfl, rfl⟩
theorem tz_any (w : World) (hT : Tz16 w) : Calls Tryd.prog 85 #[.int .u64 16] w fun e w' => e = .returned (.int .i64 4) ∧ w = w' := by
  have K := Lib.hid (fun w h => tz16_any w h)
  go_enter Tryd.func85, Tryd.ntmps85
  go_wp2_with fail
  ((with_reducible refine (K.out _ hT).mono ?_))
  rintro e w2 ⟨rfl, rfl⟩
  go_wp2_with fail
  go_ret
  exact ⟨rfl, rfl⟩
def lowTab : List UInt8 := [48, 49, 50, 51, 52, 53, 54, 55, 56, 57, 97, 98, 99, 100, 101, 102, 103, 104, 105, 106, 107, 108, 109, 110, 111, 112, 113, 114, 115, 116, 117, 118, 119, 120, 121, 122]
/-- A small letter of a capital hexadecimal one. -/
def lowC (c : UInt8) : UInt8 := if 65 ≤ c.toNat ∧ c.toNat ≤ 70 then UInt8.ofNat (c.toNat + 32) else c
/-- The small digits of v. -/
def hexLo (v : Nat) : List UInt8 := (hexU v).map lowC
theorem low_at (d : Nat) (h : d < 16) : lowTab.getD d 0 = lowC (hexC d) := by
  have : ∀ d : Fin 16, lowTab.getD d.val 0 = lowC (hexC d.val) := by decide +kernel
  exact this ⟨d, h⟩
theorem low_idx (d : Nat) (h : d < 16) (w : World) : (Instr.index 9 (.string ⟨#[48, 49, 50, 51, 52, 53, 54, 55, 56, 57, 97, 98, 99, 100, 101, 102, 103, 104, 105, 106, 107, 108, 109, 110, 111, 112, 113, 114, 115, 116, 117, 118, 119, 120, 121, 122]⟩) (.int .u64 d)).run Tryd.prog w = .ok (.int .u8 (lowC (hexC d)).toNat) w := by
  have e := low_at d h
  have hl : d < lowTab.length := by show d < 36; omega
  have e2 : lowTab.getD d 0 = lowTab[d] := by simp [List.getD, hl]
  rw [← e, e2, run_index_string _ _ _ _ _ Tryd.underlying9, dif_pos ⟨by omega, by show (d : Int) < 36; omega⟩]
  rfl
theorem hexU_small {v : Nat} (h : v < 16) : hexU v = [hexC v] := by unfold hexU; rw [show v / 16 = 0 by omega, hexP_zero, show v % 16 = v by omega]; rfl
theorem hexU_big {v : Nat} (h : 16 ≤ v) : hexU v = hexU (v / 16) ++ [hexC (v % 16)] := by
  conv => lhs; unfold hexU
  rw [hexP_pos (by omega)]
  rfl
/-- The end of the array is written. -/
def Arr (w : World) (b i : Nat) (x : List UInt8) : Prop := ∃ cs : Array Value, w.heap[b]? = some (.cells cs 106 (0, 0)) ∧ cs.size = 65 ∧ cs.toList.drop i = byV x
theorem Arr.put {w : World} {b i : Nat} {x : List UInt8} (h : Arr w b (i + 1) x) (hi : i < 65) (c : UInt8) : Arr (w.setCell ⟨b, i, none⟩ (.int .u8 c.toNat)) b i (c :: x) := by
  obtain ⟨cs, h1, h2, h3⟩ := h
  refine ⟨cs.setIfInBounds i (.int .u8 c.toNat), heap_setCell_same w _ i _ _ _ h1, by simp [h2], ?_⟩
  have hlt : i < (cs.setIfInBounds i (Value.int .u8 c.toNat)).toList.length := by simp [h2]; omega
  rw [List.drop_eq_getElem_cons hlt]
  simp only [Array.toList_setIfInBounds, List.getElem_set_self, List.drop_set_of_lt (show i < i + 1 by omega)]
  rw [h3]
  rfl
theorem Arr.cell {w : World} {b i : Nat} {x : List UInt8} (h : Arr w b i x) (j : Nat) (hj : j < 65) : ∃ v, w.cell? ⟨b, j, none⟩ = some v := by
  obtain ⟨cs, h1, h2, h3⟩ := h
  refine ⟨cs[j]'(by omega), ?_⟩
  rw [cell_of_row w b j cs _ (0, 0) h1]
  simp [h2, hj]
theorem Arr.free {w : World} {b i : Nat} {x : List UInt8} (h : Arr w b i x) (j : Nat) : w.frozen? ⟨b, j, none⟩ = false := by
  obtain ⟨cs, h1, h2, h3⟩ := h
  exact free3 h1 j
theorem Arr.conv {w : World} {b i : Nat} {x : List UInt8} (h : Arr w b i x) (c : Nat) (n : Nat) (hn : x.length = n) : Sem.run Tryd.prog (convert 58 9 (.slice (some ⟨b, i, none⟩) n c)) w = .ok (.string ⟨x.toArray⟩) w := by
  obtain ⟨cs, h1, h2, h3⟩ := h
  refine by_conv w _ _ _ x hn fun j v hj => ?_
  have e : (⟨b, i, none⟩ : Addr).add j = ⟨b, i + j, none⟩ := by by_cases h : j = 0 <;> simp [Addr.add, h]
  rw [e, cell_of_row w b (i + j) cs _ (0, 0) h1]
  rw [← h3, List.getElem?_drop] at hj
  simpa using hj
theorem slice65 (b J : Nat) (hJ : J < 65) (w : World) : (Instr.sliceAt 106 (.pointer (some ⟨b, 0, none⟩)) (some (.int .i64 J)) none none).run Tryd.prog w = .ok (.slice (some ⟨b, J, none⟩) (65 - J) (65 - J)) w := by
  have hal : Tryd.prog.arrayLen 106 = 65 := by kernel_rfl
  have hel : Tryd.prog.elem 106 = 5 := by kernel_rfl
  have hso := Tryd.sizeOf5
  rw [run_sliceAt_array_l w 106 ⟨b, 0, none⟩ (by kernel_rfl) .i64 (J : Int) (by omega) (by rw [hal]; omega), hal, hel]
  rw [hso w]
  simp only [Result.andThen, Int.toNat_natCast, slicedAt]
  rw [if_neg (show ¬ 65 = J by omega)]
  by_cases h0 : J = 0
  · subst h0; simp [Addr.add]
  · simp [Addr.add, h0]
set_option maxRecDepth 100000 in
set_option maxHeartbeats 4000000 in
theorem fbits_any (v : Nat) (w : World) (hv : Hid (v ≤ 18446744073709551615)) (hT : Tz16 w) :
    Calls Tryd.prog 73 #[.slice none 0 0, .int .u64 v, .int .i64 16, .bool false, .bool false] w fun e w' => e = .returned (.tuple #[.slice none 0 0, .string ⟨(hexLo v).toArray⟩]) ∧ Below w.heap.size w w' := by
  have KP := Lib.hid (fun w => pow16_any w)
  have KT := Lib.hid (fun w h => tz_any w h)
  have HT := Lib.hid hT
  obtain ⟨X, hX⟩ : ∃ X, Hid (hexLo v = X) := ⟨_, Lib.hid rfl⟩
  rw [hX.out]
  clear hT
  go_enter Tryd.func73, Tryd.ntmps73
  go_wp2_with fail
  ((with_reducible refine (KP.out _).mono ?_))
  rintro e w2 ⟨rfl, rfl⟩
  go_wp2_with fail
  ((with_reducible refine (KT.out _ (by have h := HT.out; unfold Tz16 at h ⊢; exact cell_old h _)).mono ?_))
  rintro e w2 ⟨rfl, rfl⟩
  clear KP KT HT
  go_wp2_with fail
  go_loopw [1, 13] (fun z i wr => ∃ (n I : Nat) (x : List UInt8), z = .int .u64 n ∧ i = .int .i64 I ∧ I + x.length = 65 ∧ x.length ≤ 15 ∧ Hid (n < 16 ^ (16 - x.length)) ∧ Hid (X = hexLo n ++ x) ∧ Hid (Arr wr w.heap.size I x) ∧ Hid (Below w.heap.size w wr)) (fun z _ _ => (intOf z).toNat)
  case atStart =>
    refine ⟨v, 65, [], rfl, rfl, by simp, by simp, Lib.hid ?_, Lib.hid (by rw [← hX.out]; simp), Lib.hid ⟨_, heap_alloc_new w _, rfl, rfl⟩, Lib.hid ((Below.refl _ _).alloc (Nat.le_refl _) _)⟩
    have := hv.out
    have e : (16 : Nat) ^ 16 = 18446744073709551616 := by decide
    simp only [List.length_nil]
    omega
  case round =>
    obtain ⟨n, I, x, rfl, rfl, hI, hx, HN, HX, HA, HB⟩ := hrel
    obtain ⟨w1, rfl⟩ : ∃ y : World, y = wr := ⟨_, rfl⟩
    obtain ⟨J, rfl⟩ : ∃ J, I = J + 1 := ⟨I - 1, by omega⟩
    obtain ⟨z0, c0⟩ := HA.out.cell J (by omega)
    have f0 := HA.out.free J
    obtain ⟨d, hd⟩ : ∃ d, n % 16 = d := ⟨_, rfl⟩
    have hd16 : d < 16 := by omega
    have HNB : Hid (n ≤ 18446744073709551615) := Lib.hid (by
      have := HN.out
      have h1 : (16 : Nat) ^ (16 - x.length) ≤ 16 ^ 16 := Nat.pow_le_pow_right (by omega) (by omega)
      have e : (16 : Nat) ^ 16 = 18446744073709551616 := by decide
      omega)
    have hand := and15 n HNB.out
    rw [hd] at hand
    have hidx := low_idx d hd16
    have HP := Lib.hid (HA.out.put (i := J) (by omega) (lowC (hexC d)))
    by_cases h16 : (16 : Int) ≤ (n : Int)
    · have HX2 : Hid (X = hexLo (n / 16) ++ (lowC (hexC d) :: x)) := Lib.hid (by
        rw [HX.out]; unfold hexLo; rw [hexU_big (v := n) (by omega), hd, List.map_append, List.append_assoc]; rfl)
      have hxl : x.length < 15 := by
        refine Classical.byContradiction fun h => ?_
        have h15 : x.length = 15 := by omega
        have := HN.out
        rw [h15] at this
        simp at this
        omega
      have HN2 : Hid (n / 16 < 16 ^ (16 - (lowC (hexC d) :: x).length)) := Lib.hid (by
        have := HN.out
        rw [List.length_cons]
        rw [show 16 - x.length = (16 - (x.length + 1)) + 1 by omega, Nat.pow_succ] at this
        omega)
      obtain ⟨C, hC⟩ : ∃ C, lowC (hexC d) = C := ⟨_, rfl⟩
      rw [hC] at hidx HP HX2 HN2
      clear hd hC HX HN HNB
      go_wp2_with fail
      go_roundw
      case rel => exact ⟨n / 16, J, C :: x, by simp, by go_num, by simp; omega, by simp; omega, HN2, HX2, HP, Lib.hid (HB.out.setCell (Nat.le_refl _) _)⟩
      case measure => simp [intOf]; omega
    · have hdn : d = n := by omega
      have HX2 : Hid (X = lowC (hexC d) :: x) := Lib.hid (by
        rw [HX.out]; unfold hexLo; rw [hexU_small (v := n) (by omega), hdn]; rfl)
      obtain ⟨C, hC⟩ : ∃ C, lowC (hexC d) = C := ⟨_, rfl⟩
      rw [hC] at hidx HP HX2
      subst hdn
      clear hd hC HX HN HNB hand
      have hcv := HP.out.conv (65 - J) (65 - J) (by simp; omega)
      have hsl := slice65 w.heap.size J (by omega)
      go_wp2_with fail
      refine bodyPost_ret (results_tmp2 rfl _ _ _) rfl ?_
      exact ⟨by rw [HX2.out]; rfl, HB.out.setCell (Nat.le_refl _) _⟩
set_option maxRecDepth 100000 in
theorem fmt16i_any (v : Nat) (w : World) (hv : Hid (v ≤ 18446744073709551615)) (hT : Tz16 w) :
    Calls Tryd.prog 53 #[.int .u64 v, .int .i64 16] w fun e w' => e = .returned (.string ⟨(hexLo v).toArray⟩) ∧ Below w.heap.size w w' := by
  have KB := Lib.hid (fbits_any v w hv hT)
  go_enter Tryd.func53, Tryd.ntmps53
  go_wp2_with fail
  ((with_reducible refine KB.out.mono ?_))
  rintro e w2 ⟨rfl, hb⟩
  have HB := Lib.hid hb
  clear hb
  go_wp2_with fail
  go_ret
  exact ⟨rfl, HB.out⟩
theorem fmt16_any (v : Nat) (w : World) (hv : Hid (v ≤ 18446744073709551615)) (hT : Tz16 w) :
    Calls Tryd.prog 25 #[.int .u64 v, .int .i64 16] w fun e w' => e = .returned (.string ⟨(hexLo v).toArray⟩) ∧ Below w.heap.size w w' := by
  have KB := Lib.hid (fmt16i_any v w hv hT)
  go_enter Tryd.func25, Tryd.ntmps25
  go_wp2_with fail
  ((with_reducible refine KB.out.mono ?_))
  rintro e w2 ⟨rfl, hb⟩
  have HB := Lib.hid hb
  clear hb
  go_wp2_with fail
  go_ret
  exact ⟨rfl, HB.out⟩
end Go.Proofs.YteifmjhkedhomaaDoor
