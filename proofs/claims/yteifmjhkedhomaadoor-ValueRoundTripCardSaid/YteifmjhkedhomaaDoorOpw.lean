/- Arguments opened: a value (api.Value). -/
import Derived.Test.YteifmjhkedhomaaDoorUl
import Derived.Test.YteifmjhkedhomaaDoorChecked
import Derived.ProofKit
import Derived.OpenShut
import Derived.SizedLaws
import Derived.Lib.SmallJoins
namespace Go.Proofs.YteifmjhkedhomaaDoor
open Go.ChangeShapes Go.WideShapes Go.RowKit Go.Joins

set_option maxRecDepth 100000 in
theorem open_valV {H : Type} {enc : TypeId × Value → H} {W : World} {b0 : Nat} {v : Value} {d : DataW H} {p : List MemPlace} (hv : Value.okWide Tryd.prog W .any b0 24 v) (h : DataW.Trod enc Tryd.prog W 0 (fun _ => true) true 24 v d p) (hw : ∀ m ∈ d.weights Tryd.prog 24, m ≤ reachBytes) :
    ∃ (k n : Int) (s : List UInt8) (o : Int), v = valV k n s o ∧ Fits n s := by
  obtain ⟨c0, c1, c2, c3, y0, y1, y2, y3, n, rfl, rfl, rfl, h0, h1, h2, h3⟩ := open_agg4 Tryd.underlying24 (by kernel_rfl) (by kernel_rfl) hv h
  obtain ⟨k, e0, _, _⟩ := DataW.trod_int Tryd.underlying3 h0
  obtain ⟨m, e1, _, wm⟩ := DataW.trod_int Tryd.underlying22 h1
  obtain ⟨s, e2, x2, _⟩ := DataW.trod_string Tryd.underlying9 h2
  obtain ⟨o, e3, _, _⟩ := DataW.trod_int Tryd.underlying3 h3
  simp at e0 e1 e2 e3
  subst e0 e1 e2 e3
  obtain ⟨b1, b2⟩ := bounds_u64 wm
  have hl : s.data.toList.length ≤ reachBytes := hw _ (by
    simp only [DataW.weights, Tryd.underlying24]
    simp only [List.map_cons, List.map_nil, DataW.weightsEach, List.mem_append]
    rw [x2]
    right; right; left
    simp [DataW.weights])
  have hr : reachBytes = 140737488351232 := rfl
  rw [hr] at hl
  exact ⟨k, m, s.data.toList, o, rfl, b1, b2, by omega⟩
theorem sized_each {H : Type} {P : Program} {ts : List TypeId} {ds : List (DataW H)} (h : (DataW.weightsEach P ts ds).all (· ≤ reachBytes) = true) {j : Nat} {t : TypeId} {d : DataW H} (ht : ts[j]? = some t) (hd : ds[j]? = some d) : ∀ m ∈ d.weights P t, m ≤ reachBytes := by
  intro m hm
  have := List.all_eq_true.1 h m (DataW.weights_mem_each ht hd m hm)
  simpa using this
end Go.Proofs.YteifmjhkedhomaaDoor
