/- A slice of bytes, opened. -/
import Derived.Test.YtkalnblbplaheaaDoorNop
namespace Go.Proofs.YtkalnblbplaheaaDoor
open Go.ChangeShapes Go.WideShapes Go.RowKit Go.Joins

/-- The value is a slice that reads as these bytes. -/
def BytesAt (w : World) (v : Value) (l : List Int) : Prop :=
  ∃ (a : Option Addr) (cap : Nat), v = .slice a l.length cap ∧ l.length ≤ 140737488351232 ∧ (l ≠ [] → ∃ b off, a = some ⟨b, off, none⟩ ∧ ∀ k (h : k < l.length), w.cell? ⟨b, off + k, none⟩ = some (.int .u8 l[k])) ∧ ∀ x ∈ l, 0 ≤ x ∧ x ≤ 255
theorem open_bytesV {H : Type} {enc : TypeId × Value → H} {W : World} {fuel : Nat} {v : Value} {y : DataW H × List MemPlace} (h : DataW.trod enc Tryd.prog W 0 (fun _ => true) true fuel 28 [v] = some y) (hw : ∀ m ∈ y.1.weights Tryd.prog 28, m ≤ reachBytes) :
    ∃ l, BytesAt W v l := by
  rcases open_ints Tryd.underlying28 Tryd.underlying5 cellsT5 h with ⟨hcs, hx⟩ | ⟨a, len, cap, zs, hcs, _, hl, hm, hz, hx, hcell, hwz⟩
  · cases hcs
    exact ⟨[], none, 0, rfl, by simp, fun h => absurd rfl h, by simp⟩
  · cases hcs
    subst hx
    simp only [if_true] at hz
    have h1 : ((lits (H := H) .u8 (zs.take len)).length + (lits (H := H) .u8 (zs.drop len)).length) * Tryd.prog.bytesOf 5 ≤ reachBytes := by
      apply hw
      simp only [DataW.weights, Tryd.underlying28]
      exact List.mem_cons_self ..
    rw [bytesT5] at h1
    simp only [lits, List.length_map, List.length_take, List.length_drop] at h1
    have hr : reachBytes = 140737488351232 := rfl
    rw [hr] at h1
    have hlen : (zs.take len).length = len := by simp; omega
    refine ⟨zs.take len, some a, cap, by rw [hlen], by rw [hlen]; omega, fun hn => ?_, ?_⟩
    · have hpos : 0 < len := by
        rcases Nat.eq_zero_or_pos len with h0 | h0
        · subst h0; simp at hn
        · exact h0
      obtain ⟨b, o, spot⟩ := a
      have hsp : spot = none := by
        have h1 := hcell 0 (by omega)
        simpa [Addr.add] using World.cell?_spot h1
      subst hsp
      refine ⟨b, o, rfl, fun k hk => ?_⟩
      rw [hlen] at hk
      have h2 := hcell k (by omega)
      rw [add_zero_addr] at h2
      rw [h2]
      simp [List.getD, List.getElem?_eq_getElem (show k < zs.length by omega)]
    · intro x hx
      exact bounds_u8 (hwz x (List.mem_of_mem_take hx))
theorem open_bytesA {H : Type} {enc : TypeId × Value → H} {W : World} {b0 : Nat} {v : Value} {d : DataW H} {p : List MemPlace} (hv : Value.okWide Tryd.prog W .any b0 28 v) (h : DataW.Trod enc Tryd.prog W 0 (fun _ => true) true 28 v d p) (hw : ∀ m ∈ d.weights Tryd.prog 28, m ≤ reachBytes) :
    ∃ l, BytesAt W v l := by
  obtain ⟨a0, len, cap, rfl⟩ := okWide_slice Tryd.underlying28 hv
  obtain ⟨fuel, hf⟩ := h
  exact open_bytesV (by simpa [Value.cells] using hf) hw
end Go.Proofs.YtkalnblbplaheaaDoor
