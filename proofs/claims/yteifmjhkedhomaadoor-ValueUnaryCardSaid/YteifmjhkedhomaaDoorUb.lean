/- strings.ToUpper over hexadecimal digits. -/
import Derived.Test.YteifmjhkedhomaaDoorFub
import Derived.Test.YteifmjhkedhomaaDoorShelf
namespace Go.Proofs.YteifmjhkedhomaaDoor
open Go.RowKit
set_option linter.unusedVariables false

theorem cat0x (x : List UInt8) : (#[48, 120] : Array UInt8) ++ x.toArray = (48 :: 120 :: x).toArray := by simp
theorem up_low (d : Nat) (h : d < 16) : Lib.upperB (lowC (hexC d)) = hexC d ∧ (lowC (hexC d)).toNat < 128 := by
  have : ∀ d : Fin 16, Lib.upperB (lowC (hexC d.val)) = hexC d.val ∧ (lowC (hexC d.val)).toNat < 128 := by decide +kernel
  exact this ⟨d, h⟩
theorem hexP_dig : ∀ (n v : Nat), v ≤ n → ∀ c ∈ hexP v, ∃ d, d < 16 ∧ c = hexC d
  | n, v, h, c, hc => by
    by_cases h0 : v = 0
    · subst h0; rw [hexP_zero] at hc; cases hc
    · rw [hexP_pos h0] at hc
      rcases List.mem_append.1 hc with hc | hc
      · cases n with
        | zero => omega
        | succ n => exact hexP_dig n (v / 16) (by omega) c hc
      · simp only [List.mem_cons, List.not_mem_nil, or_false] at hc
        exact ⟨v % 16, by omega, hc⟩
theorem hexU_dig (v : Nat) : ∀ c ∈ hexU v, ∃ d, d < 16 ∧ c = hexC d := by
  intro c hc
  unfold hexU at hc
  rcases List.mem_append.1 hc with hc | hc
  · exact hexP_dig _ _ (Nat.le_refl _) c hc
  · simp only [List.mem_cons, List.not_mem_nil, or_false] at hc
    exact ⟨v % 16, by omega, hc⟩
theorem upper_hexLo (v : Nat) : Lib.toUpperA (hexLo v) = hexU v := by
  unfold Lib.toUpperA hexLo
  rw [List.map_map]
  conv => rhs; rw [← List.map_id (hexU v)]
  refine List.map_congr_left fun c hc => ?_
  obtain ⟨d, h, rfl⟩ := hexU_dig v c hc
  exact (up_low d h).1
theorem hexLo_ascii (v : Nat) : ∀ (j : Nat) (b : UInt8), (hexLo v)[j]? = some b → b.toNat < 128 := by
  intro j b h
  have hm := List.mem_of_getElem? h
  unfold hexLo at hm
  obtain ⟨c, hc, rfl⟩ := List.mem_map.1 hm
  obtain ⟨d, h', rfl⟩ := hexU_dig v c hc
  exact (up_low d h').2
theorem upper_any (v : Nat) (hv : v ≤ 18446744073709551615) (w : World) : Calls Tryd.prog 24 #[.string ⟨(hexLo v).toArray⟩] w fun e w' => e = .returned (.string ⟨(hexU v).toArray⟩) ∧ Below w.heap.size w w' := by
  have hl : (hexLo v).length ≤ 16 := by unfold hexLo; rw [List.length_map]; exact hexU_len hv
  have := Tryd.strings_ToUpper_ascii ⟨(hexLo v).toArray⟩ w (by rw [ByteArray.size_mk', List.size_toArray]; omega) (fun j b h => hexLo_ascii v j b (by simpa using h))
  refine this.mono fun e w' ⟨he, hb⟩ => ⟨?_, hb⟩
  rw [he]
  show Ending.returned (.string ⟨(Lib.toUpperA (hexLo v)).toArray⟩) = _
  rw [upper_hexLo]
end Go.Proofs.YteifmjhkedhomaaDoor
