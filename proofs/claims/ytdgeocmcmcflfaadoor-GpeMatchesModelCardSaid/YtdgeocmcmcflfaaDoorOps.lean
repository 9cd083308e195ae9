/- A slice of operations that came in: its cells. -/
import Derived.Test.YtdgeocmcmcflfaaDoorLaw4
import Derived.Test.YtdgeocmcmcflfaaDoorChecked
import Derived.ProofKit
import Derived.OpenShut
import Derived.Deep.Slices
import Derived.ChangeSame
namespace Go.Proofs.YtdgeocmcmcflfaaDoor
open Go.ChangeShapes Go.WideShapes Go.Deep Go.RowKit

theorem cells33 : Tryd.prog.cellsOf 33 = 3 := by kernel_rfl
theorem cells3 : Tryd.prog.cellsOf 3 = 1 := by kernel_rfl
theorem cells4 : Tryd.prog.cellsOf 4 = 1 := by kernel_rfl

theorem op_cells {H : Type} {enc : TypeId × Value → H} {W : World} {n : Nat} {cs : List Value} {x : DataW H × List MemPlace} (h : DataW.trod enc Tryd.prog W 0 (fun _ => true) true n 33 cs = some x) :
    ∃ o : OpV, cs = [.int .i64 o.kind, .int .i64 o.event, .bool o.on] := by
  obtain ⟨xs, n', _, _, hlen, hxl, hf⟩ := DataW.trod_struct Tryd.underlying33 h
  rw [cells33] at hlen
  match cs, hlen with
  | [c0, c1, c2], _ =>
    have hxl' : xs.length = 3 := hxl
    match xs, hxl' with
    | [y0, y1, y2], _ =>
      have h0 : DataW.trod enc Tryd.prog W 0 (fun _ => true) true n' 3 (List.take (Tryd.prog.cellsOf 3) [c0, c1, c2]) = some y0 := hf 0 _ rfl
      have h1 : DataW.trod enc Tryd.prog W 0 (fun _ => true) true n' 3 (List.take (Tryd.prog.cellsOf 3) [c1, c2]) = some y1 := hf 1 _ rfl
      have h2 : DataW.trod enc Tryd.prog W 0 (fun _ => true) true n' 4 (List.take (Tryd.prog.cellsOf 4) [c2]) = some y2 := hf 2 _ rfl
      rw [cells3] at h0 h1
      rw [cells4] at h2
      obtain ⟨a, e0, _, _⟩ := DataW.trod_int Tryd.underlying3 h0
      obtain ⟨b, e1, _, _⟩ := DataW.trod_int Tryd.underlying3 h1
      obtain ⟨c, e2, _⟩ := DataW.trod_bool Tryd.underlying4 h2
      simp at e0 e1 e2
      exact ⟨⟨a, b, c⟩, by rw [e0, e1, e2]⟩

/-- The three cells of element i. -/
def OpCell (W : World) (a : Addr) (i : Nat) (o : OpV) : Prop := W.cell? ((a.add (i * 3)).add 0) = some (.int .i64 o.kind) ∧ W.cell? ((a.add (i * 3)).add 1) = some (.int .i64 o.event) ∧ W.cell? ((a.add (i * 3)).add 2) = some (.bool o.on)

theorem open_ops {H : Type} {enc : TypeId × Value → H} {W : World} {base : Nat} {v : Value} {d : DataW H} {p : List MemPlace} (hv : Value.okWide Tryd.prog W .any base 30 v) (h : DataW.Trod enc Tryd.prog W 0 (fun _ => true) true 30 v d p) :
    (∃ a cap, v = .slice a 0 cap) ∨ ∃ ab ao cap ops, v = .slice (some ⟨ab, ao, none⟩) ops.length cap ∧ OpsAt W ab ao ops ∧ ab < W.heap.size ∧ ops.length ≤ 9223372036854775807 := by
  obtain ⟨a0, len, cap, rfl⟩ := okWide_slice Tryd.underlying30 hv
  obtain ⟨fuel, hf⟩ := h
  rcases open_slice Tryd.underlying30 hf with ⟨hcs, _⟩ | ⟨a, len', cap', m, n, D, Pl, hcs, hb, hl, hm, hmm, hx, hi⟩
  · simp [Value.cells] at hcs
    obtain ⟨rfl, rfl, rfl⟩ := hcs
    exact .inl ⟨_, _, rfl⟩
  · simp [Value.cells] at hcs
    obtain ⟨rfl, rfl, rfl⟩ := hcs
    by_cases h0 : len = 0
    · subst h0; exact .inl ⟨_, _, rfl⟩
    · right
      simp only [if_true] at hmm
      rw [cells33] at hi
      have key : ∀ i, ∃ o : OpV, i < len → OpCell W a i o := by
        intro i
        by_cases hil : i < len
        · obtain ⟨cs', hc, ht⟩ := hi i (by omega)
          obtain ⟨o, rfl⟩ := op_cells ht
          obtain ⟨_, _, hat⟩ := World.cells?_some hc
          exact ⟨o, fun _ => ⟨hat 0 (by omega), hat 1 (by omega), hat 2 (by omega)⟩⟩
        · exact ⟨⟨0, 0, false⟩, fun h => absurd h hil⟩
      obtain ⟨f, hfo⟩ : ∃ f : Nat → OpV, ∀ i, i < len → OpCell W a i (f i) := ⟨fun i => (key i).choose, fun i => (key i).choose_spec⟩
      have hlen : ((List.range len).map f).length = len := by simp
      obtain ⟨ab, ao, spot⟩ := a
      have hsp : spot = none := by
        have h1 := (hfo 0 (by omega)).1
        simpa [Addr.add] using World.cell?_spot h1
      subst hsp
      have hblk : ab < W.heap.size := by
        have h1 := (hfo 0 (by omega)).1
        rcases Nat.lt_or_ge ab W.heap.size with h' | h'
        · exact h'
        · have : W.heap[ab]? = none := Array.getElem?_eq_none h'
          simp [World.cell?, Addr.add, this] at h1
      refine ⟨ab, ao, cap, (List.range len).map f, by rw [hlen], ?_, hblk, by rw [hlen]; unfold maxLen at hm; omega⟩
      intro i hil
      rw [hlen] at hil
      obtain ⟨h1, h2, h3⟩ := hfo i hil
      rw [add_add] at h1 h2 h3
      have e : ∀ j, (⟨ab, ao, none⟩ : Addr).add j = ⟨ab, ao + j, none⟩ := fun j => by by_cases hj : j = 0 <;> simp [Addr.add, hj]
      rw [e] at h1 h2 h3
      simp only [List.getElem_map, List.getElem_range]
      exact ⟨h1, h2, h3⟩

set_option maxRecDepth 100000 in
set_option maxHeartbeats 2000000 in
theorem law_edge0 (a : Option Addr) (cap : Nat) (w : World) (hT : Tab w) (h0 : 0 < w.heap.size) :
    Calls Tryd.prog 4 #[.slice a 0 cap] w fun e w' => e = .returned (.bool true) ∧ Below w.heap.size w w' := by
  have HT := Lib.hid hT
  clear hT
  go_enter Tryd.func4, Tryd.ntmps4
  go_wp2_with fail
  refine (new_yes w.heap.size 0 [false, true, false] 3 _ ?_ (by simp) (by decide) (by decide)).mono ?_
  · intro i hi
    match i, hi with
    | 0, _ => simp [go_sem]
    | 1, _ => simp [go_sem]
    | 2, _ => simp [go_sem]
  rintro e w1 ⟨rfl, hg1, hb1⟩
  have hB : (w.alloc (Obj.cells #[Value.bool false, Value.bool true, Value.bool false] 4)).heap.size = w.heap.size + 1 := by simp
  have hbel1 : Below w.heap.size w w1 := Below.trans ((Below.refl _ _).alloc (Nat.le_refl _) _) (hb1.mono (by rw [hB]; omega))
  have hT1 : Tab w1 := HT.out.below h0 hbel1
  rw [hB] at hg1
  have hs1 : w.heap.size + 1 < w1.heap.size := hg1.lt
  have H1 : Hid (GpeAt w1 (w.heap.size + 1) [newEv false, newEv true, newEv false]) := Lib.hid hg1
  have HT1 := Lib.hid hT1
  have HB1 := Lib.hid hbel1
  clear hg1 hb1 hB hT1 hbel1
  go_wp2_with fail
  refine (awake_any _ HT1.out (by omega)).mono ?_
  rintro e w2 ⟨rfl, hb2⟩
  have H2 : Hid (GpeAt w2 (w.heap.size + 1) [newEv false, newEv true, newEv false]) := Lib.hid ⟨(hb2.block _ hs1).trans H1.out.1, H1.out.2⟩
  have HB2 : Hid (Below w.heap.size w w2) := Lib.hid (HB1.out.trans (hb2.mono HB1.out.size))
  have hs2 : w.heap.size + 1 < w2.heap.size := by have := hb2.size; omega
  clear hb2 H1 HT1 HB1 hs1
  go_wp2_with fail
  refine (enable_yes _ 0 _ (newEv false) true _ H2.out rfl).mono ?_
  rintro e w3 ⟨rfl, hg3, hr3⟩
  have H3 : Hid (GpeAt w3 (w.heap.size + 1) [⟨false, false, false, true, false, false⟩, newEv true, newEv false]) := Lib.hid hg3
  have HB3 : Hid (Below w.heap.size w w3) := Lib.hid (HB2.out.grown hr3 HB2.out.size (fun j hj => by simp at hj; omega))
  have hs3 : w.heap.size + 1 < w3.heap.size := by have := hr3.size; omega
  clear hg3 hr3 H2 HB2 hs2
  go_wp2_with fail
  go_loopw [8] (fun i wr => i = .int .i64 0 ∧ Below w.heap.size w wr) (fun _ _ => 0)
  case atStart => exact ⟨rfl, HB3.out⟩
  case round =>
    obtain ⟨rfl, hb⟩ := hrel
    have HB := Lib.hid hb
    clear hb
    go_wp2_with fail
    go_ret
    exact ⟨rfl, HB.out⟩

theorem law_edge_any (v : Value) (w : World) (hT : Tab w) (h0 : 0 < w.heap.size)
    (h : (∃ a cap, v = .slice a 0 cap) ∨ ∃ ab ao cap ops, v = .slice (some ⟨ab, ao, none⟩) ops.length cap ∧ OpsAt w ab ao ops ∧ ab < w.heap.size ∧ ops.length ≤ 9223372036854775807) :
    Calls Tryd.prog 4 #[v] w fun e w' => e = .returned (.bool true) ∧ Below w.heap.size w w' := by
  rcases h with ⟨a, cap, rfl⟩ | ⟨ab, ao, cap, ops, rfl, hO, hab, hlen⟩
  · exact law_edge0 a cap w hT h0
  · exact law_edge ab ao cap ops w hT h0 hab hO hlen
end Go.Proofs.YtdgeocmcmcflfaaDoor
