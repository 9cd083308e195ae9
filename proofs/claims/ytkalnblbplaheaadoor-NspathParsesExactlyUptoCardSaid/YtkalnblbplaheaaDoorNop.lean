/- Arguments opened: a path, a slice of bytes. -/
import Derived.Test.YtkalnblbplaheaaDoorShelf
import Derived.Test.YtkalnblbplaheaaDoorPv
import Derived.Test.YtkalnblbplaheaaDoorChecked
import Derived.ProofKit
import Derived.OpenShut
import Derived.SizedLaws
import Derived.SliceStrings
import Derived.Lib.SmallJoins
import Derived.ChangeSlices
namespace Go.Proofs.YtkalnblbplaheaaDoor
open Go.ChangeShapes Go.WideShapes Go.RowKit Go.Joins

theorem cellsT9 : Tryd.prog.cellsOf 9 = 1 := by kernel_rfl
theorem cellsT5 : Tryd.prog.cellsOf 5 = 1 := by kernel_rfl
theorem cellsTP : Tryd.prog.cellsOf 24 = 3 := by kernel_rfl
theorem bytesT9 : Tryd.prog.bytesOf 9 = 16 := by kernel_rfl
theorem bytesT5 : Tryd.prog.bytesOf 5 = 1 := by kernel_rfl
theorem add_zero_addr (b o k : Nat) : (⟨b, o, none⟩ : Addr).add k = ⟨b, o + k, none⟩ := by by_cases h : k = 0 <;> simp [Addr.add, h]
theorem weights_strs {H : Type} (P : Program) (e : Nat) : ∀ (ss : List ByteArray) (s : ByteArray), s ∈ ss → s.data.toList.length ∈ DataW.weightsAll (H := H) P e (strs ss)
  | [], s, h => by cases h
  | x :: r, s, h => by
    simp only [strs, List.map_cons, DataW.weightsAll, List.mem_append]
    rcases List.mem_cons.1 h with rfl | h
    · left; simp [DataW.weights]
    · right; exact weights_strs P e r s h
theorem open_strsV {H : Type} {enc : TypeId × Value → H} {W : World} {fuel : Nat} {v : Value} {y : DataW H × List MemPlace} (h : DataW.trod enc Tryd.prog W 0 (fun _ => true) true fuel 22 [v] = some y) (hw : ∀ m ∈ y.1.weights Tryd.prog 22, m ≤ reachBytes) :
    ∃ l, StrsAt W v l ∧ (∀ x ∈ l, x.length ≤ 140737488351232) ∧ l.length ≤ 8796093022207 := by
  rcases open_strings Tryd.underlying22 Tryd.underlying9 cellsT9 h with ⟨hcs, hx⟩ | ⟨a, len, cap, ss, hcs, _, hl, hm, hz, hx, hcell, hws⟩
  · cases hcs
    exact ⟨[], StrsAt.nil _, by simp, by simp⟩
  · cases hcs
    subst hx
    simp only [if_true] at hz
    have hww : ∀ m ∈ ((strs (H := H) (ss.take len)).length + (strs (H := H) (ss.drop len)).length) * Tryd.prog.bytesOf 9 :: (DataW.weightsAll Tryd.prog 9 (strs (H := H) (ss.take len)) ++ DataW.weightsAll Tryd.prog 9 (strs (H := H) (ss.drop len))), m ≤ reachBytes := by
      intro m hm
      apply hw m
      simp only [DataW.weights, Tryd.underlying22]
      exact hm
    have h1 := hww _ (List.mem_cons_self ..)
    rw [bytesT9] at h1
    simp only [strs, List.length_map, List.length_take, List.length_drop] at h1
    have hr : reachBytes = 140737488351232 := rfl
    rw [hr] at h1
    have hlen : ((ss.take len).map (fun s => s.data.toList)).length = len := by simp; omega
    refine ⟨(ss.take len).map (fun s => s.data.toList), ⟨some a, cap, by rw [hlen], by rw [hlen]; omega, ⟨(fun h => by cases h), by rw [hlen]; omega⟩, fun hn => ?_⟩, ?_, by rw [hlen]; omega⟩
    · have hpos : 0 < len := by
        rcases Nat.eq_zero_or_pos len with h0 | h0
        · subst h0; simp at hn
        · exact h0
      obtain ⟨b, o, spot⟩ := a
      have hsp : spot = none := by
        have h1 := hcell 0 (by omega)
        simpa [Addr.add] using World.cell?_spot h1
      subst hsp
      refine ⟨b, o, rfl, fun k hk => ?_⟩
      rw [hlen] at hk
      have h2 := hcell k (by omega)
      rw [add_zero_addr] at h2
      rw [h2]
      have h3 : ss.getD k ByteArray.empty = ss[k]'(by omega) := by simp [List.getD, List.getElem?_eq_getElem (show k < ss.length by omega)]
      rw [h3]
      simp [strV]
    · intro x hx
      obtain ⟨s, hs, rfl⟩ := List.mem_map.1 hx
      exact hww _ (List.mem_cons_of_mem _ (List.mem_append_left _ (weights_strs Tryd.prog 9 _ s hs)))
theorem open_pathV {H : Type} {enc : TypeId × Value → H} {W : World} {b0 : Nat} {v : Value} {d : DataW H} {p : List MemPlace} (hv : Value.okWide Tryd.prog W .any b0 24 v) (h : DataW.Trod enc Tryd.prog W 0 (fun _ => true) true 24 v d p) (hw : ∀ m ∈ d.weights Tryd.prog 24, m ≤ reachBytes) :
    ∃ root up l, PathV W v root up l ∧ (∀ x ∈ l, x.length ≤ 140737488351232) ∧ l.length ≤ 8796093022207 ∧ -9223372036854775808 ≤ up ∧ up ≤ 9223372036854775807 := by
  obtain ⟨c0, c1, c2, y0, y1, y2, n, rfl, rfl, rfl, h0, h1, h2⟩ := open_agg3 Tryd.underlying24 (by kernel_rfl) cellsTP hv h
  obtain ⟨r, e0, _⟩ := DataW.trod_bool Tryd.underlying4 h0
  obtain ⟨u, e1, _, wu⟩ := DataW.trod_int Tryd.underlying3 h1
  simp at e0 e1
  subst e0 e1
  obtain ⟨hl, hlx, hll⟩ := open_strsV h2 (fun m hm => hw m (by
    simp only [DataW.weights, Tryd.underlying24]
    simp only [List.map_cons, List.map_nil, DataW.weightsEach, List.mem_append]
    exact .inr (.inr (.inl hm))))
  obtain ⟨b1, b2⟩ := bounds_i64 wu
  exact ⟨r, u, hl, ⟨_, rfl, hlx⟩, hll.1, hll.2, b1, b2⟩
theorem sized_each {H : Type} {P : Program} {ts : List TypeId} {ds : List (DataW H)} (h : (DataW.weightsEach P ts ds).all (· ≤ reachBytes) = true) {j : Nat} {t : TypeId} {d : DataW H} (ht : ts[j]? = some t) (hd : ds[j]? = some d) : ∀ m ∈ d.weights P t, m ≤ reachBytes := by
  intro m hm
  have := List.all_eq_true.1 h m (DataW.weights_mem_each ht hd m hm)
  simpa using this
/-- The library's own variable holds some integer. -/
theorem max_cell {W : World} (h : W.ShapedOpen Tryd.prog) : ∃ m, W.cell? ⟨0, 0, none⟩ = some (.int .i64 m) :=
  Go.Proofs.cell_of_shapedOpen_int (zero := #[.int .i64 0]) (t := 3) h (of_decide_eq_true (by kernel_rfl)) (by kernel_rfl) rfl (by kernel_rfl) (by kernel_rfl) Tryd.underlying3
end Go.Proofs.YtkalnblbplaheaaDoor
