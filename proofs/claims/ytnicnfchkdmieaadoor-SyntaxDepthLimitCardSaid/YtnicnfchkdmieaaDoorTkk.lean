/- text of the reference: the walk. -/
import Derived.Test.YtnicnfchkdmieaaDoorTkj
import Derived.Test.YtnicnfchkdmieaaDoorPlan
namespace Go.Proofs.YtnicnfchkdmieaaDoor
open Go.RowKit
set_option linter.unusedVariables false
set_option linter.unusedSimpArgs false
attribute [local go_sem] ByteArray.mk_append_mk bs_get bs_cut bs_end by_conv1

/-- The pair that the reference's text returns. -/
def textPair (o : Option (List UInt8 × List UInt8)) (n : Nat) : Value := match o with
  | some (v, r) => .tuple #[.string ⟨v.toArray⟩, .int .i64 ((n - r.length : Nat) : Int)]
  | none => .tuple #[.string ⟨#[]⟩, .int .i64 (-1)]
theorem or16i (a b : Nat) (ha : a < 16) (hb : b < 16) : bits .or .i64 ((a : Int) * 16) (b : Int) = ((a * 16 + b : Nat) : Int) := by
  have : ∀ a : Fin 16, ∀ b : Fin 16, bits .or .i64 (((a : Nat) : Int) * 16) ((b : Nat) : Int) = (((a : Nat) * 16 + (b : Nat) : Nat) : Int) := by decide +kernel
  exact this ⟨a, ha⟩ ⟨b, hb⟩
theorem by_conv1d (w : World) (x : Int) : Sem.run Tryd.prog (convert 81 9 (.slice (some ⟨w.heap.size, 0, none⟩) 1 1)) (w.alloc (.cells #[.int .u8 x] 5)).drew = .ok (.string ⟨[UInt8.ofNat x.toNat].toArray⟩) (w.alloc (.cells #[.int .u8 x] 5)).drew := by
  rw [run_convert_bytes_string _ 81 9 5 _ _ _ Tryd.underlying81 Tryd.underlying5 Tryd.underlying9]
  rw [run_bytesToString _ _ 1 1 [x] (by simp [loadCells, go_sem])]
  rfl
attribute [local go_sem] by_conv1d
theorem idx_is (s : List UInt8) (k : Nat) (h : k < s.length) (i : Int) (hi : i = k) (w : World) : (Instr.index 9 (.string ⟨s.toArray⟩) (.int .i64 i)).run Tryd.prog w = .ok (.int .u8 s[k].toNat) w := by
  subst hi
  rw [run_index_string _ _ _ _ _ Tryd.underlying9, dif_pos ⟨by omega, by rw [ByteArray.size_mk', List.size_toArray]; omega⟩]
  rfl
/-- The escape sequences, in terms of the positions. -/
theorem text_pair {s l : List UInt8} {p : Nat} (h : p < s.length) (hc : s[p] = 92) (h1 : p + 1 < s.length) (h2 : s[p + 1] = 34 ∨ s[p + 1] = 92) : textF (s.drop p) l = textF (s.drop (p + 2)) (l ++ [s[p + 1]]) := by
  rw [textF_at h, hc, List.drop_eq_getElem_cons h1, textF_escGo]
  rcases h2 with h2 | h2 <;> rw [h2] <;> rfl
theorem text_hex {s l : List UInt8} {p : Nat} (h : p < s.length) (hc : s[p] = 92) (h3 : p + 3 < s.length) (h2 : s[p + 1] = 120) {a b : Nat} (ha : hexV s[p + 2] = some a) (hb : hexV s[p + 3] = some b) : textF (s.drop p) l = textF (s.drop (p + 4)) (l ++ [UInt8.ofNat (a * 16 + b)]) := by
  rw [textF_at h, hc, List.drop_eq_getElem_cons (i := p + 1) (by omega), List.drop_eq_getElem_cons (i := p + 1 + 1) (by omega), List.drop_eq_getElem_cons (i := p + 1 + 1 + 1) (by omega), textF_escGo, h2, escL_hex]
  rw [show s[p + 1 + 1] = s[p + 2] from rfl, show s[p + 1 + 1 + 1] = s[p + 3] from rfl, ha, hb]
  rfl
theorem text_none {s l : List UInt8} {p : Nat} (h : p < s.length) (hc : s[p] = 92) (h1 : ∀ h1 : p + 1 < s.length, s[p + 1] ≠ 34 ∧ s[p + 1] ≠ 92)
    (h2 : ∀ h3 : p + 3 < s.length, s[p + 1] = 120 → hexV s[p + 2] = none ∨ hexV s[p + 3] = none) : textF (s.drop p) l = none := by
  rw [textF_at h, hc, textF_escGo]
  by_cases k1 : p + 1 < s.length
  · obtain ⟨n1, n2⟩ := h1 k1
    rw [List.drop_eq_getElem_cons k1]
    by_cases k2 : s[p + 1] = 120
    · rw [k2]
      by_cases k3 : p + 3 < s.length
      · rw [List.drop_eq_getElem_cons (i := p + 1 + 1) (by omega), List.drop_eq_getElem_cons (i := p + 1 + 1 + 1) (by omega), escL_hex]
        rw [show s[p + 1 + 1] = s[p + 2] from rfl, show s[p + 1 + 1 + 1] = s[p + 3] from rfl]
        rcases h2 k3 k2 with e | e
        · rw [e]; rfl
        · rw [e]; cases hexV s[p + 2] <;> rfl
      · rw [escL_short (by rw [List.length_drop]; omega)]; rfl
    · rw [escL_other n1 n2 k2]; rfl
  · rw [List.drop_eq_nil_of_le (by omega)]; rfl
theorem hexI_ge (c : UInt8) (o : Option Nat) (h : hexV c = o) : decide (0 ≤ hexI c) = o.isSome := by
  unfold hexI
  rw [h]
  cases o with
  | none => rfl
  | some x => simp
end Go.Proofs.YtnicnfchkdmieaaDoor
