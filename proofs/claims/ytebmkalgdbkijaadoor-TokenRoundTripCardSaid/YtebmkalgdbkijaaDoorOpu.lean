/- Arguments opened: a slice of tokens. -/
import Derived.Test.YtebmkalgdbkijaaDoorTlo
import Derived.Test.YtebmkalgdbkijaaDoorOpn
import Derived.Deep.Slices
import Derived.ChangeSame
namespace Go.Proofs.YtebmkalgdbkijaaDoor
open Go.ChangeShapes Go.WideShapes Go.Deep Go.RowKit
set_option linter.unusedVariables false
set_option maxRecDepth 100000

theorem cellsTok : Tryd.prog.cellsOf 27 = 4 := by kernel_rfl
theorem cellsTint : Tryd.prog.cellsOf 3 = 1 := by kernel_rfl
theorem cellsTu64 : Tryd.prog.cellsOf 25 = 1 := by kernel_rfl
theorem cellsTstr : Tryd.prog.cellsOf 9 = 1 := by kernel_rfl
theorem bytesTok : Tryd.prog.bytesOf 27 = 40 := by kernel_rfl
theorem weightsAll_mem {H : Type} (P : Program) (e : TypeId) : ∀ (l : List (DataW H)) (d : DataW H), d ∈ l → ∀ m ∈ d.weights P e, m ∈ DataW.weightsAll P e l
  | [], d, h, m, _ => by cases h
  | x :: r, d, h, m, hm => by
    simp only [DataW.weightsAll, List.mem_append]
    rcases List.mem_cons.1 h with rfl | h
    · exact .inl hm
    · exact .inr (weightsAll_mem P e r d h m hm)
theorem tok_cells {H : Type} {enc : TypeId × Value → H} {W : World} {n : Nat} {cs : List Value} {x : DataW H × List MemPlace} (h : DataW.trod enc Tryd.prog W 0 (fun _ => true) true n 27 cs = some x) :
    ∃ o : TokI, cs = [.int .i64 o.kind, .int .u64 o.num, .string ⟨o.str.toArray⟩, .int .i64 o.pos] ∧ NumI o ∧ o.str.length ∈ x.1.weights Tryd.prog 27 := by
  obtain ⟨xs, n', _, hx, hlen, hxl, hf⟩ := DataW.trod_struct Tryd.underlying27 h
  rw [cellsTok] at hlen
  match cs, hlen with
  | [c0, c1, c2, c3], _ =>
    have hxl' : xs.length = 4 := hxl
    match xs, hxl' with
    | [y0, y1, y2, y3], _ =>
      have h0 : DataW.trod enc Tryd.prog W 0 (fun _ => true) true n' 3 (List.take (Tryd.prog.cellsOf 3) [c0, c1, c2, c3]) = some y0 := hf 0 _ rfl
      have h1 : DataW.trod enc Tryd.prog W 0 (fun _ => true) true n' 25 (List.take (Tryd.prog.cellsOf 25) [c1, c2, c3]) = some y1 := hf 1 _ rfl
      have h2 : DataW.trod enc Tryd.prog W 0 (fun _ => true) true n' 9 (List.take (Tryd.prog.cellsOf 9) [c2, c3]) = some y2 := hf 2 _ rfl
      have h3 : DataW.trod enc Tryd.prog W 0 (fun _ => true) true n' 3 (List.take (Tryd.prog.cellsOf 3) [c3]) = some y3 := hf 3 _ rfl
      rw [cellsTint] at h0 h3
      rw [cellsTu64] at h1
      rw [cellsTstr] at h2
      obtain ⟨a, e0, _, _⟩ := DataW.trod_int Tryd.underlying3 h0
      obtain ⟨b, e1, _, wb⟩ := DataW.trod_int Tryd.underlying25 h1
      obtain ⟨s, e2, hy2, _⟩ := DataW.trod_string Tryd.underlying9 h2
      obtain ⟨d, e3, _, _⟩ := DataW.trod_int Tryd.underlying3 h3
      simp at e0 e1 e2 e3
      refine ⟨⟨a, b, s.data.toList, d⟩, by rw [e0, e1, e2, e3], bounds_u64 wb, ?_⟩
      rw [hx]
      simp only [DataW.weights, Tryd.underlying27, List.map_cons, List.map_nil, DataW.weightsEach, hy2, List.mem_append, List.mem_cons]
      simp
theorem open_toks {H : Type} {enc : TypeId × Value → H} {W : World} {base : Nat} {v : Value} {d : DataW H} {p : List MemPlace} (hv : Value.okWide Tryd.prog W .any base 22 v) (h : DataW.Trod enc Tryd.prog W 0 (fun _ => true) true 22 v d p) (hw : ∀ m ∈ d.weights Tryd.prog 22, m ≤ reachBytes) :
    ∃ l, TSl W v l ∧ l.length ≤ 9223372036854770000 ∧ (∀ t ∈ l, t.str.length ≤ 140737488351232) ∧ ∀ t ∈ l, NumI t := by
  have hr : reachBytes = 140737488351232 := rfl
  rw [hr] at hw
  obtain ⟨a0, len, cap, rfl⟩ := okWide_slice Tryd.underlying22 hv
  obtain ⟨fuel, hf⟩ := h
  rcases open_slice Tryd.underlying22 hf with ⟨hcs, _⟩ | ⟨a, len', cap', m, n, D, Pl, hcs, hb, hl, hm, hmm, hx, hi⟩
  · simp [Value.cells] at hcs
    obtain ⟨rfl, rfl, rfl⟩ := hcs
    exact ⟨[], ⟨none, 0, rfl, fun h => absurd rfl h⟩, by simp, by simp, by simp⟩
  · simp [Value.cells] at hcs
    obtain ⟨rfl, rfl, rfl⟩ := hcs
    simp only [if_true] at hmm
    rw [cellsTok] at hi
    injection hx with hx _
    have hlen40 : len * 40 ≤ 140737488351232 := by
      have h1 : ((List.range len).map D).length * 40 ≤ (((List.range len).map D).length + ((List.range (m - len)).map fun j => D (len + j)).length) * Tryd.prog.bytesOf 27 := by
        rw [bytesTok]; exact Nat.mul_le_mul_right _ (by omega)
      have h2 := hw _ (by rw [hx]; simp only [DataW.weights, Tryd.underlying22]; exact List.mem_cons_self ..)
      have h3 : ((List.range len).map D).length = len := by simp
      rw [h3] at h1
      exact Nat.le_trans h1 (by simpa using h2)
    have key : ∀ i, ∃ o : TokI, i < len → (W.cell? ((a.add (i * 4)).add 0) = some (.int .i64 o.kind) ∧ W.cell? ((a.add (i * 4)).add 1) = some (.int .u64 o.num) ∧ W.cell? ((a.add (i * 4)).add 2) = some (.string ⟨o.str.toArray⟩) ∧ W.cell? ((a.add (i * 4)).add 3) = some (.int .i64 o.pos)) ∧ NumI o ∧ o.str.length ≤ 140737488351232 := by
      intro i
      by_cases hil : i < len
      · obtain ⟨cs', hc, ht⟩ := hi i (by omega)
        obtain ⟨o, rfl, hn, hwt⟩ := tok_cells ht
        obtain ⟨_, _, hat⟩ := World.cells?_some hc
        refine ⟨o, fun _ => ⟨⟨hat 0 (by omega), hat 1 (by omega), hat 2 (by omega), hat 3 (by omega)⟩, hn, hw _ ?_⟩⟩
        rw [hx]
        simp only [DataW.weights, Tryd.underlying22, List.mem_cons, List.mem_append]
        refine .inr (.inl (weightsAll_mem _ _ _ (D i) ?_ _ hwt))
        exact List.mem_map.2 ⟨i, List.mem_range.2 hil, rfl⟩
      · exact ⟨⟨0, 0, [], 0⟩, fun h => absurd h hil⟩
    obtain ⟨f, hfo⟩ : ∃ f : Nat → TokI, ∀ i, i < len → (W.cell? ((a.add (i * 4)).add 0) = some (.int .i64 (f i).kind) ∧ W.cell? ((a.add (i * 4)).add 1) = some (.int .u64 (f i).num) ∧ W.cell? ((a.add (i * 4)).add 2) = some (.string ⟨(f i).str.toArray⟩) ∧ W.cell? ((a.add (i * 4)).add 3) = some (.int .i64 (f i).pos)) ∧ NumI (f i) ∧ (f i).str.length ≤ 140737488351232 := ⟨fun i => (key i).choose, fun i => (key i).choose_spec⟩
    have hlen : ((List.range len).map f).length = len := by simp
    refine ⟨(List.range len).map f, ⟨some a, cap, by rw [hlen], fun hne => ?_⟩, by rw [hlen]; omega, ?_, ?_⟩
    · have hpos : 0 < len := by
        rcases Nat.eq_zero_or_pos len with h0 | h0
        · subst h0; simp at hne
        · exact h0
      obtain ⟨ab, ao, spot⟩ := a
      have hsp : spot = none := by
        have h1 := (hfo 0 hpos).1.1
        simpa [Addr.add] using World.cell?_spot h1
      subst hsp
      refine ⟨ab, ao, rfl, fun i hil => ?_⟩
      rw [hlen] at hil
      obtain ⟨⟨h0, h1, h2, h3⟩, _⟩ := hfo i hil
      have e : ∀ j, (⟨ab, ao, none⟩ : Addr).add j = ⟨ab, ao + j, none⟩ := fun j => by by_cases hj : j = 0 <;> simp [Addr.add, hj]
      have e2 : ∀ j, (⟨ab, ao + i * 4, none⟩ : Addr).add j = ⟨ab, ao + i * 4 + j, none⟩ := fun j => by by_cases hj : j = 0 <;> simp [Addr.add, hj]
      rw [e, e2] at h0 h1 h2 h3
      simp only [List.getElem_map, List.getElem_range]
      exact ⟨h0, h1, h2, h3⟩
    · intro t ht
      obtain ⟨i, hi', rfl⟩ := List.mem_map.1 ht
      exact (hfo i (List.mem_range.1 hi')).2.2
    · intro t ht
      obtain ⟨i, hi', rfl⟩ := List.mem_map.1 ht
      exact (hfo i (List.mem_range.1 hi')).2.1
end Go.Proofs.YtebmkalgdbkijaaDoor
