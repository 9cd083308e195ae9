/- A bag of calls and of new variables: what holds inside it. -/
import Derived.Test.YtkalnblbplaheaaDoorBs
import Derived.Test.YtkalnblbplaheaaDoorPlan
namespace Go.Proofs.YtkalnblbplaheaaDoor
open Go.RowKit

/-- Calls leave values of which K holds (as long as what was there stays); a new variable lies in a block of its own. -/
def BagJ (W : World) (K : Nat → World → Value → Prop) (O : Nat → Option Obj) (d : Nat → Bool) (u : Nat → Value) (w' : World) : Prop :=
  Grows W w' ∧ (∀ i, d i = true → O i = none → K i w' (u i)) ∧ (∀ i o, d i = true → O i = some o → ∃ b, W.heap.size ≤ b ∧ u i = .pointer (some ⟨b, 0, none⟩) ∧ w'.heap[b]? = some o) ∧
  (∀ i j b, d i = true → d j = true → (O i).isSome = true → (O j).isSome = true → u i = .pointer (some ⟨b, 0, none⟩) → u j = .pointer (some ⟨b, 0, none⟩) → i = j)
theorem BagJ.start (W : World) (K : Nat → World → Value → Prop) (O : Nat → Option Obj) (u : Nat → Value) : BagJ W K O (fun _ => false) u W.drew :=
  ⟨Grows.self _, (fun _ h => by cases h), (fun _ _ h => by cases h), (fun _ _ _ h => by cases h)⟩
theorem BagJ.grows {W : World} {K : Nat → World → Value → Prop} {O : Nat → Option Obj} {d : Nat → Bool} {u : Nat → Value} {w1 : World} (h : BagJ W K O d u w1) : Grows W w1 := h.1
theorem BagJ.call {W : World} {K : Nat → World → Value → Prop} {O : Nat → Option Obj} {d : Nat → Bool} {u : Nat → Value} {w1 w2 : World} (h : BagJ W K O d u w1) (hK : ∀ i x y v, K i x v → Below x.heap.size x y → K i y v) (hb : Below w1.heap.size w1 w2) (i : Nat) (hi : O i = none) {v : Value} (hv : K i w2 v) :
    BagJ W K O (fun j => d j || j == i) (fun j => if j = i then v else u j) w2 := by
  obtain ⟨h1, h2, h3, h4⟩ := h
  refine ⟨h1.trans hb, ?_, ?_, ?_⟩
  · intro j hd ho
    by_cases hj : j = i
    · subst hj; simp only [if_pos]; exact hv
    · simp only [if_neg hj]
      exact hK _ _ _ _ (h2 j (by simpa [hj] using hd) ho) hb
  · intro j o hd ho
    have hj : j ≠ i := by rintro rfl; rw [hi] at ho; cases ho
    simp only [if_neg hj]
    obtain ⟨b, k1, k2, k3⟩ := h3 j o (by simpa [hj] using hd) ho
    exact ⟨b, k1, k2, blk_below k3 hb⟩
  · intro j k b hd1 hd2 o1 o2 e1 e2
    have hj : j ≠ i := by rintro rfl; rw [hi] at o1; cases o1
    have hk : k ≠ i := by rintro rfl; rw [hi] at o2; cases o2
    simp only [if_neg hj] at e1
    simp only [if_neg hk] at e2
    exact h4 j k b (by simpa [hj] using hd1) (by simpa [hk] using hd2) o1 o2 e1 e2
theorem BagJ.new {W : World} {K : Nat → World → Value → Prop} {O : Nat → Option Obj} {d : Nat → Bool} {u : Nat → Value} {w1 : World} (h : BagJ W K O d u w1) (hK : ∀ i x y v, K i x v → Below x.heap.size x y → K i y v) (i : Nat) (o : Obj) (hi : O i = some o) :
    BagJ W K O (fun j => d j || j == i) (fun j => if j = i then .pointer (some ⟨w1.heap.size, 0, none⟩) else u j) (w1.alloc o) := by
  have hb : Below w1.heap.size w1 (w1.alloc o) := (Below.refl _ _).alloc (Nat.le_refl _) _
  obtain ⟨h1, h2, h3, h4⟩ := h
  have hlt : ∀ j b, d j = true → (O j).isSome = true → u j = .pointer (some ⟨b, 0, none⟩) → b < w1.heap.size := by
    intro j b hd ho he
    obtain ⟨o', ho'⟩ := Option.isSome_iff_exists.1 ho
    obtain ⟨b', _, k2, k3⟩ := h3 j o' hd ho'
    rw [k2] at he
    injection he with e1
    injection e1 with e2
    injection e2 with e3
    subst e3
    exact lt_of_block k3
  refine ⟨h1.trans hb, ?_, ?_, ?_⟩
  · intro j hd ho
    have hj : j ≠ i := by rintro rfl; rw [hi] at ho; cases ho
    simp only [if_neg hj]
    exact hK _ _ _ _ (h2 j (by simpa [hj] using hd) ho) hb
  · intro j o' hd ho
    by_cases hj : j = i
    · subst hj
      rw [hi] at ho
      injection ho with ho
      subst ho
      exact ⟨w1.heap.size, Below.size h1, by simp, heap_alloc_new _ _⟩
    · simp only [if_neg hj]
      obtain ⟨b, k1, k2, k3⟩ := h3 j o' (by simpa [hj] using hd) ho
      exact ⟨b, k1, k2, blk_below k3 hb⟩
  · intro j k b hd1 hd2 o1 o2 e1 e2
    by_cases hj : j = i
    · by_cases hk : k = i
      · rw [hj, hk]
      · simp only [if_pos hj] at e1
        simp only [if_neg hk] at e2
        have := hlt k b (by simpa [hk] using hd2) o2 e2
        injection e1 with e3
        injection e3 with e4
        injection e4 with e5
        omega
    · by_cases hk : k = i
      · simp only [if_neg hj] at e1
        simp only [if_pos hk] at e2
        have := hlt j b (by simpa [hj] using hd1) o1 e1
        injection e2 with e3
        injection e3 with e4
        injection e4 with e5
        omega
      · simp only [if_neg hj] at e1
        simp only [if_neg hk] at e2
        exact h4 j k b (by simpa [hj] using hd1) (by simpa [hk] using hd2) o1 o2 e1 e2
/-- What is there when all is done. -/
theorem BagJ.value {W : World} {K : Nat → World → Value → Prop} {O : Nat → Option Obj} {d : Nat → Bool} {u : Nat → Value} {w1 : World} (h : BagJ W K O d u w1) (i : Nat) (hd : d i = true) (hi : O i = none) : K i w1 (u i) := h.2.1 i hd hi
theorem BagJ.block {W : World} {K : Nat → World → Value → Prop} {O : Nat → Option Obj} {d : Nat → Bool} {u : Nat → Value} {w1 : World} (h : BagJ W K O d u w1) (i : Nat) (o : Obj) (hd : d i = true) (hi : O i = some o) : ∃ b, W.heap.size ≤ b ∧ u i = .pointer (some ⟨b, 0, none⟩) ∧ w1.heap[b]? = some o := h.2.2.1 i o hd hi
theorem BagJ.apart {W : World} {K : Nat → World → Value → Prop} {O : Nat → Option Obj} {d : Nat → Bool} {u : Nat → Value} {w1 : World} (h : BagJ W K O d u w1) {i j b c : Nat} (hd1 : d i = true) (hd2 : d j = true) (h1 : (O i).isSome = true) (h2 : (O j).isSome = true) (e1 : u i = .pointer (some ⟨b, 0, none⟩)) (e2 : u j = .pointer (some ⟨c, 0, none⟩)) (hne : i ≠ j) : b ≠ c := by
  rintro rfl
  exact hne (h.2.2.2 i j b hd1 hd2 h1 h2 e1 e2)
end Go.Proofs.YtkalnblbplaheaaDoor
