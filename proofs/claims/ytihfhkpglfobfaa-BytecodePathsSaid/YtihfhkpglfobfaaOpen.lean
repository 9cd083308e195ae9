/- Arguments opened: a path, a slice of bytes. -/
import Derived.Test.YtihfhkpglfobfaaDec
import Derived.Test.YtihfhkpglfobfaaChecked
import Derived.ProofKit
import Derived.OpenShut
import Derived.SizedLaws
import Derived.SliceStrings
import Derived.Lib.SmallJoins
import Derived.ChangeSlices
namespace Go.Proofs.Ytihfhkpglfobfaa
open Go.ChangeShapes Go.WideShapes Go.RowKit Go.Joins

theorem cellsT9 : Try.prog.cellsOf 9 = 1 := by kernel_rfl
theorem cellsT5 : Try.prog.cellsOf 5 = 1 := by kernel_rfl
theorem cellsT45 : Try.prog.cellsOf 45 = 3 := by kernel_rfl
theorem bytesT9 : Try.prog.bytesOf 9 = 16 := by kernel_rfl
theorem bytesT5 : Try.prog.bytesOf 5 = 1 := by kernel_rfl
theorem add_zero_addr (b o k : Nat) : (⟨b, o, none⟩ : Addr).add k = ⟨b, o + k, none⟩ := by by_cases h : k = 0 <;> simp [Addr.add, h]
theorem weights_strs {H : Type} (P : Program) (e : Nat) : ∀ (ss : List ByteArray) (s : ByteArray), s ∈ ss → s.data.toList.length ∈ DataW.weightsAll (H := H) P e (strs ss)
  | [], s, h => by cases h
  | x :: r, s, h => by
    simp only [strs, List.map_cons, DataW.weightsAll, List.mem_append]
    rcases List.mem_cons.1 h with rfl | h
    · left; simp [DataW.weights]
    · right; exact weights_strs P e r s h
theorem open_strsV {H : Type} {enc : TypeId × Value → H} {W : World} {fuel : Nat} {v : Value} {y : DataW H × List MemPlace} (h : DataW.trod enc Try.prog W 0 (fun _ => true) true fuel 43 [v] = some y) (hw : ∀ m ∈ y.1.weights Try.prog 43, m ≤ reachBytes) :
    ∃ l, StrsAt W v l ∧ (∀ x ∈ l, x.length ≤ 140737488351232) ∧ l.length ≤ 8796093022207 := by
  rcases open_strings Try.underlying43 Try.underlying9 cellsT9 h with ⟨hcs, hx⟩ | ⟨a, len, cap, ss, hcs, _, hl, hm, hz, hx, hcell, hws⟩
  · cases hcs
    exact ⟨[], ⟨none, 0, rfl, by simp, fun h => absurd rfl h⟩, by simp, by simp⟩
  · cases hcs
    subst hx
    simp only [if_true] at hz
    have hww : ∀ m ∈ ((strs (H := H) (ss.take len)).length + (strs (H := H) (ss.drop len)).length) * Try.prog.bytesOf 9 :: (DataW.weightsAll Try.prog 9 (strs (H := H) (ss.take len)) ++ DataW.weightsAll Try.prog 9 (strs (H := H) (ss.drop len))), m ≤ reachBytes := by
      intro m hm
      apply hw m
      simp only [DataW.weights, Try.underlying43]
      exact hm
    have h1 := hww _ (List.mem_cons_self ..)
    rw [bytesT9] at h1
    simp only [strs, List.length_map, List.length_take, List.length_drop] at h1
    have hr : reachBytes = 140737488351232 := rfl
    rw [hr] at h1
    have hlen : ((ss.take len).map (fun s => s.data.toList)).length = len := by simp; omega
    refine ⟨(ss.take len).map (fun s => s.data.toList), ⟨some a, cap, by rw [hlen], by rw [hlen]; omega, fun hn => ?_⟩, ?_, by rw [hlen]; omega⟩
    · have hpos : 0 < len := by
        rcases Nat.eq_zero_or_pos len with h0 | h0
        · subst h0; simp at hn
        · exact h0
      obtain ⟨b, o, spot⟩ := a
      have hsp : spot = none := by
        have h1 := hcell 0 (by omega)
        simpa [Addr.add] using World.cell?_spot h1
      subst hsp
      refine ⟨b, o, rfl, fun k hk => ?_⟩
      rw [hlen] at hk
      have h2 := hcell k (by omega)
      rw [add_zero_addr] at h2
      rw [h2]
      have h3 : ss.getD k ByteArray.empty = ss[k]'(by omega) := by simp [List.getD, List.getElem?_eq_getElem (show k < ss.length by omega)]
      rw [h3]
      simp [strV]
    · intro x hx
      obtain ⟨s, hs, rfl⟩ := List.mem_map.1 hx
      exact hww _ (List.mem_cons_of_mem _ (List.mem_append_left _ (weights_strs Try.prog 9 _ s hs)))
theorem open_bytesV {H : Type} {enc : TypeId × Value → H} {W : World} {fuel : Nat} {v : Value} {y : DataW H × List MemPlace} (h : DataW.trod enc Try.prog W 0 (fun _ => true) true fuel 35 [v] = some y) (hw : ∀ m ∈ y.1.weights Try.prog 35, m ≤ reachBytes) :
    ∃ l, BytesAt W v l := by
  rcases open_ints Try.underlying35 Try.underlying5 cellsT5 h with ⟨hcs, hx⟩ | ⟨a, len, cap, zs, hcs, _, hl, hm, hz, hx, hcell, hwz⟩
  · cases hcs
    exact ⟨[], none, 0, rfl, by simp, fun h => absurd rfl h, by simp⟩
  · cases hcs
    subst hx
    simp only [if_true] at hz
    have h1 : ((lits (H := H) .u8 (zs.take len)).length + (lits (H := H) .u8 (zs.drop len)).length) * Try.prog.bytesOf 5 ≤ reachBytes := by
      apply hw
      simp only [DataW.weights, Try.underlying35]
      exact List.mem_cons_self ..
    rw [bytesT5] at h1
    simp only [lits, List.length_map, List.length_take, List.length_drop] at h1
    have hr : reachBytes = 140737488351232 := rfl
    rw [hr] at h1
    have hlen : (zs.take len).length = len := by simp; omega
    refine ⟨zs.take len, some a, cap, by rw [hlen], by rw [hlen]; omega, fun hn => ?_, ?_⟩
    · have hpos : 0 < len := by
        rcases Nat.eq_zero_or_pos len with h0 | h0
        · subst h0; simp at hn
        · exact h0
      obtain ⟨b, o, spot⟩ := a
      have hsp : spot = none := by
        have h1 := hcell 0 (by omega)
        simpa [Addr.add] using World.cell?_spot h1
      subst hsp
      refine ⟨b, o, rfl, fun k hk => ?_⟩
      rw [hlen] at hk
      have h2 := hcell k (by omega)
      rw [add_zero_addr] at h2
      rw [h2]
      simp [List.getD, List.getElem?_eq_getElem (show k < zs.length by omega)]
    · intro x hx
      exact bounds_u8 (hwz x (List.mem_of_mem_take hx))
theorem open_pathV {H : Type} {enc : TypeId × Value → H} {W : World} {b0 : Nat} {v : Value} {d : DataW H} {p : List MemPlace} (hv : Value.okWide Try.prog W .any b0 45 v) (h : DataW.Trod enc Try.prog W 0 (fun _ => true) true 45 v d p) (hw : ∀ m ∈ d.weights Try.prog 45, m ≤ reachBytes) :
    ∃ root up l, PathV W v root up l ∧ (∀ x ∈ l, x.length ≤ 140737488351232) ∧ l.length ≤ 8796093022207 ∧ -9223372036854775808 ≤ up ∧ up ≤ 9223372036854775807 := by
  obtain ⟨c0, c1, c2, y0, y1, y2, n, rfl, rfl, rfl, h0, h1, h2⟩ := open_agg3 Try.underlying45 (by kernel_rfl) cellsT45 hv h
  obtain ⟨r, e0, _⟩ := DataW.trod_bool Try.underlying4 h0
  obtain ⟨u, e1, _, wu⟩ := DataW.trod_int Try.underlying3 h1
  simp at e0 e1
  subst e0 e1
  obtain ⟨hl, hlx, hll⟩ := open_strsV h2 (fun m hm => hw m (by
    simp only [DataW.weights, Try.underlying45]
    simp only [List.map_cons, List.map_nil, DataW.weightsEach, List.mem_append]
    exact .inr (.inr (.inl hm))))
  obtain ⟨b1, b2⟩ := bounds_i64 wu
  exact ⟨r, u, hl, ⟨_, rfl, hlx⟩, hll.1, hll.2, b1, b2⟩
theorem open_bytesA {H : Type} {enc : TypeId × Value → H} {W : World} {b0 : Nat} {v : Value} {d : DataW H} {p : List MemPlace} (hv : Value.okWide Try.prog W .any b0 35 v) (h : DataW.Trod enc Try.prog W 0 (fun _ => true) true 35 v d p) (hw : ∀ m ∈ d.weights Try.prog 35, m ≤ reachBytes) :
    ∃ l, BytesAt W v l := by
  obtain ⟨a0, len, cap, rfl⟩ := okWide_slice Try.underlying35 hv
  obtain ⟨fuel, hf⟩ := h
  exact open_bytesV (by simpa [Value.cells] using hf) hw
theorem sized_each {H : Type} {P : Program} {ts : List TypeId} {ds : List (DataW H)} (h : (DataW.weightsEach P ts ds).all (· ≤ reachBytes) = true) {j : Nat} {t : TypeId} {d : DataW H} (ht : ts[j]? = some t) (hd : ds[j]? = some d) : ∀ m ∈ d.weights P t, m ≤ reachBytes := by
  intro m hm
  have := List.all_eq_true.1 h m (DataW.weights_mem_each ht hd m hm)
  simpa using this
end Go.Proofs.Ytihfhkpglfobfaa
