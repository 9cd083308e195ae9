/- A slice of bools that came in: its cells; the law for every pair of arguments. -/
import Derived.Test.YtdgeocmcmcflfaaDoorLaw6
import Derived.Test.YtdgeocmcmcflfaaDoorOps
namespace Go.Proofs.YtdgeocmcmcflfaaDoor
open Go.ChangeShapes Go.WideShapes Go.Deep Go.RowKit

theorem open_bools {H : Type} {enc : TypeId × Value → H} {W : World} {base : Nat} {v : Value} {d : DataW H} {p : List MemPlace} (hv : Value.okWide Tryd.prog W .any base 27 v) (h : DataW.Trod enc Tryd.prog W 0 (fun _ => true) true 27 v d p) :
    (∃ a cap, v = .slice a 0 cap) ∨ ∃ ab ao cap bs, v = .slice (some ⟨ab, ao, none⟩) bs.length cap ∧ BoolsAt W ab ao bs ∧ ab < W.heap.size ∧ bs.length ≤ 9223372036854775807 := by
  obtain ⟨a0, len, cap, rfl⟩ := okWide_slice Tryd.underlying27 hv
  obtain ⟨fuel, hf⟩ := h
  rcases open_slice Tryd.underlying27 hf with ⟨hcs, _⟩ | ⟨a, len', cap', m, n, D, Pl, hcs, hb, hl, hm, hmm, hx, hi⟩
  · simp [Value.cells] at hcs
    obtain ⟨rfl, rfl, rfl⟩ := hcs
    exact .inl ⟨_, _, rfl⟩
  · simp [Value.cells] at hcs
    obtain ⟨rfl, rfl, rfl⟩ := hcs
    by_cases h0 : len = 0
    · subst h0; exact .inl ⟨_, _, rfl⟩
    · right
      simp only [if_true] at hmm
      rw [cells4] at hi
      have key : ∀ i, ∃ o : Bool, i < len → W.cell? ((a.add (i * 1)).add 0) = some (.bool o) := by
        intro i
        by_cases hil : i < len
        · obtain ⟨cs', hc, ht⟩ := hi i (by omega)
          obtain ⟨c, rfl, _⟩ := DataW.trod_bool Tryd.underlying4 ht
          obtain ⟨_, _, hat⟩ := World.cells?_some hc
          exact ⟨c, fun _ => hat 0 (by omega)⟩
        · exact ⟨false, fun h => absurd h hil⟩
      obtain ⟨f, hfo⟩ : ∃ f : Nat → Bool, ∀ i, i < len → W.cell? ((a.add (i * 1)).add 0) = some (.bool (f i)) := ⟨fun i => (key i).choose, fun i => (key i).choose_spec⟩
      have hlen : ((List.range len).map f).length = len := by simp
      obtain ⟨ab, ao, spot⟩ := a
      have hsp : spot = none := by
        have h1 := hfo 0 (by omega)
        simpa [Addr.add] using World.cell?_spot h1
      subst hsp
      have hblk : ab < W.heap.size := by
        have h1 := hfo 0 (by omega)
        rcases Nat.lt_or_ge ab W.heap.size with h' | h'
        · exact h'
        · have : W.heap[ab]? = none := Array.getElem?_eq_none h'
          simp [World.cell?, Addr.add, this] at h1
      refine ⟨ab, ao, cap, (List.range len).map f, by rw [hlen], ?_, hblk, by rw [hlen]; unfold maxLen at hm; omega⟩
      intro i hil
      rw [hlen] at hil
      have h1 := hfo i hil
      rw [add_add] at h1
      have e : ∀ j, (⟨ab, ao, none⟩ : Addr).add j = ⟨ab, ao + j, none⟩ := fun j => by by_cases hj : j = 0 <;> simp [Addr.add, hj]
      rw [e] at h1
      simp only [List.getElem_map, List.getElem_range]
      rw [Nat.mul_one, Nat.add_zero] at h1
      exact h1

theorem law_model_any (v u : Value) (w : World) (hT : Tab w) (h0 : 0 < w.heap.size)
    (hv : (∃ a cap, v = .slice a 0 cap) ∨ ∃ ab ao cap bs, v = .slice (some ⟨ab, ao, none⟩) bs.length cap ∧ BoolsAt w ab ao bs ∧ ab < w.heap.size ∧ bs.length ≤ 9223372036854775807)
    (hu : (∃ a cap, u = .slice a 0 cap) ∨ ∃ ab ao cap ops, u = .slice (some ⟨ab, ao, none⟩) ops.length cap ∧ OpsAt w ab ao ops ∧ ab < w.heap.size ∧ ops.length ≤ 9223372036854775807) :
    Calls Tryd.prog 6 #[v, u] w fun e w' => e = .returned (.bool true) ∧ Below w.heap.size w w' := by
  obtain ⟨oa, ocap, ops, rfl, hO, hlen⟩ : ∃ oa ocap ops, u = .slice oa ops.length ocap ∧ OpsIn w oa ops ∧ ops.length ≤ 9223372036854775807 := by
    rcases hu with ⟨a, cap, rfl⟩ | ⟨ab, ao, cap, ops, rfl, hO, hab, hlen⟩
    · exact ⟨a, cap, [], rfl, .inl rfl, Nat.zero_le _⟩
    · exact ⟨_, cap, ops, rfl, .inr ⟨ab, ao, rfl, hab, hO⟩, hlen⟩
  rcases hv with ⟨a, cap, rfl⟩ | ⟨ab, ao, cap, bs, rfl, hA, hab, hl⟩
  · exact law_model_zero a 0 cap rfl oa ocap ops w hT h0 hO hlen
  · by_cases hz : bs.length = 0
    · rw [hz]; exact law_model_zero _ 0 cap rfl oa ocap ops w hT h0 hO hlen
    · by_cases h40 : 40 < bs.length
      · exact law_model_wide _ bs.length cap h40 hl oa ocap ops w hT h0 hO hlen
      · exact law_model_given ab ao cap bs oa ocap ops w hT h0 hab hA (by omega) (by omega) hO hlen
end Go.Proofs.YtdgeocmcmcflfaaDoor
