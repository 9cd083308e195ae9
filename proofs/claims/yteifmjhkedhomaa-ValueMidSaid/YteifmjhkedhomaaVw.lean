/- ValueMid: the walk. -/
import Derived.Test.YteifmjhkedhomaaVv
namespace Go.Proofs.Yteifmjhkedhomaa
open Go.RowKit
set_option linter.unusedVariables false
attribute [local go_sem] ByteArray.mk_append_mk bs_get bs_cut bs_end conv1 conv2

/-- A value that fits, as a value. -/
def IsVal (v : Value) : Prop := ∃ (k n : Int) (s : List UInt8) (o : Int), v = valV k n s o ∧ Fits n s
/-- A new variable of the type. -/
def IsNew (w w' : World) (v : Value) (b : Nat) : Prop := v = .pointer (some ⟨b, 0, none⟩) ∧ w.heap.size ≤ b ∧ w'.heap[b]? = some (vObj 0 0 [] 0)
/-- What holds inside the bag. -/
def MidJ (w : World) (d : Nat → Bool) (u : Nat → Value) (w' : World) : Prop :=
  Grows w w' ∧ (d 1 = true → IsVal (u 1)) ∧ (d 3 = true → IsVal (u 3)) ∧ (d 4 = true → ∃ b, IsNew w w' (u 4) b) ∧ (d 5 = true → ∃ b, IsNew w w' (u 5) b) ∧
    (d 4 = true → d 5 = true → ∀ b c, IsNew w w' (u 4) b → IsNew w w' (u 5) c → b ≠ c)
theorem IsNew.below {w w1 w2 : World} {v : Value} {b : Nat} (h : IsNew w w1 v b) (hb : Below w1.heap.size w1 w2) : IsNew w w2 v b := ⟨h.1, h.2.1, blk_below h.2.2 hb⟩
theorem IsNew.is {w w1 : World} {v : Value} {b c : Nat} (h : IsNew w w1 v b) (hv : v = .pointer (some ⟨c, 0, none⟩)) : b = c := by
  have := h.1.symm.trans hv
  injection this with h1
  injection h1 with h2
  injection h2
theorem MidJ.start (w : World) (u : Nat → Value) : MidJ w (fun _ => false) u w.drew := ⟨Grows.self _, (fun h => by cases h), (fun h => by cases h), (fun h => by cases h), (fun h => by cases h), (fun h => by cases h)⟩
theorem MidJ.call {w w1 w2 : World} {d : Nat → Bool} {u : Nat → Value} (h : MidJ w d u w1) (hb : Below w1.heap.size w1 w2) {i : Nat} (hi : i = 1 ∨ i = 3) {v : Value} (hv : IsVal v) : MidJ w (fun j => d j || j == i) (fun j => if j = i then v else u j) w2 := by
  obtain ⟨h1, h2, h3, h4, h5, h6⟩ := h
  refine ⟨h1.trans hb, ?_, ?_, ?_, ?_, ?_⟩
  · rcases hi with rfl | rfl
    · intro _; simpa using hv
    · intro hd; simp at hd ⊢; exact h2 hd
  · rcases hi with rfl | rfl
    · intro hd; simp at hd ⊢; exact h3 hd
    · intro _; simpa using hv
  · intro hd
    have hd' : d 4 = true := by rcases hi with rfl | rfl <;> simpa using hd
    obtain ⟨b, hn⟩ := h4 hd'
    refine ⟨b, ?_⟩
    rcases hi with rfl | rfl <;> simpa using hn.below hb
  · intro hd
    have hd' : d 5 = true := by rcases hi with rfl | rfl <;> simpa using hd
    obtain ⟨b, hn⟩ := h5 hd'
    refine ⟨b, ?_⟩
    rcases hi with rfl | rfl <;> simpa using hn.below hb
  · intro hd4 hd5 b c hb' hc'
    have hd4' : d 4 = true := by rcases hi with rfl | rfl <;> simpa using hd4
    have hd5' : d 5 = true := by rcases hi with rfl | rfl <;> simpa using hd5
    obtain ⟨b0, hn⟩ := h4 hd4'
    obtain ⟨c0, hm⟩ := h5 hd5'
    have e1 : IsNew w w2 (u 4) b := by rcases hi with rfl | rfl <;> simpa using hb'
    have e2 : IsNew w w2 (u 5) c := by rcases hi with rfl | rfl <;> simpa using hc'
    have := h6 hd4' hd5' b0 c0 hn hm
    have x1 := hn.is e1.1
    have x2 := hm.is e2.1
    omega
theorem MidJ.new {w w1 : World} {d : Nat → Bool} {u : Nat → Value} (h : MidJ w d u w1) {i : Nat} (hi : i = 4 ∨ i = 5) : MidJ w (fun j => d j || j == i) (fun j => if j = i then .pointer (some ⟨w1.heap.size, 0, none⟩) else u j) (w1.alloc (vObj 0 0 [] 0)) := by
  obtain ⟨h1, h2, h3, h4, h5, h6⟩ := h
  have hb : Below w1.heap.size w1 (w1.alloc (vObj 0 0 [] 0)) := (Below.refl _ _).alloc (Nat.le_refl _) _
  have hnew : IsNew w (w1.alloc (vObj 0 0 [] 0)) (.pointer (some ⟨w1.heap.size, 0, none⟩)) w1.heap.size := ⟨rfl, Below.size h1, heap_alloc_new w1 _⟩
  have lt4 : ∀ b, IsNew w w1 (u 4) b → b < w1.heap.size := fun b hn => lt_of_block hn.2.2
  have lt5 : ∀ b, IsNew w w1 (u 5) b → b < w1.heap.size := fun b hn => lt_of_block hn.2.2
  refine ⟨h1.trans hb, ?_, ?_, ?_, ?_, ?_⟩
  · intro hd; rcases hi with rfl | rfl <;> (simp at hd ⊢; exact h2 hd)
  · intro hd; rcases hi with rfl | rfl <;> (simp at hd ⊢; exact h3 hd)
  · rcases hi with rfl | rfl
    · intro _; exact ⟨_, by simpa using hnew⟩
    · intro hd
      obtain ⟨b, hn⟩ := h4 (by simpa using hd)
      exact ⟨b, by simpa using hn.below hb⟩
  · rcases hi with rfl | rfl
    · intro hd
      obtain ⟨b, hn⟩ := h5 (by simpa using hd)
      exact ⟨b, by simpa using hn.below hb⟩
    · intro _; exact ⟨_, by simpa using hnew⟩
  · rcases hi with rfl | rfl
    · intro _ hd b c hb' hc'
      obtain ⟨c0, hn⟩ := h5 (by simpa using hd)
      have e1 : IsNew w (w1.alloc (vObj 0 0 [] 0)) (.pointer (some ⟨w1.heap.size, 0, none⟩)) b := by simpa using hb'
      have e2 : IsNew w (w1.alloc (vObj 0 0 [] 0)) (u 5) c := by simpa using hc'
      have x1 := hnew.is e1.1
      have x2 := hn.is e2.1
      have := lt5 c0 hn
      omega
    · intro hd _ b c hb' hc'
      obtain ⟨c0, hn⟩ := h4 (by simpa using hd)
      have e1 : IsNew w (w1.alloc (vObj 0 0 [] 0)) (u 4) b := by simpa using hb'
      have e2 : IsNew w (w1.alloc (vObj 0 0 [] 0)) (.pointer (some ⟨w1.heap.size, 0, none⟩)) c := by simpa using hc'
      have x1 := hnew.is e2.1
      have x2 := hn.is e1.1
      have := lt4 c0 hn
      omega
/-- These blocks hold these objects. -/
def Bls (w : World) (l : List (Nat × Obj)) : Prop := ∀ p ∈ l, w.heap[p.1]? = some p.2
theorem Bls.below {w w2 : World} {l : List (Nat × Obj)} (h : Bls w l) (hb : Below w.heap.size w w2) : Bls w2 l := fun p hp => blk_below (h p hp) hb
theorem Bls.new {w : World} {l : List (Nat × Obj)} (h : Bls w l) (o : Obj) : Bls (w.alloc o) ((w.heap.size, o) :: l) := by
  intro p hp
  rcases List.mem_cons.1 hp with rfl | hp
  · exact heap_alloc_new w o
  · exact blk_alloc (h p hp) o
theorem Bls.has {w : World} {l : List (Nat × Obj)} (h : Bls w l) {b : Nat} {o : Obj} (hm : (b, o) ∈ l) : w.heap[b]? = some o := h _ hm
theorem clean_is (k n o : Int) (s : List UInt8) (r : Value) (H : Hid (cleanV k n s o = r)) (w : World) : Calls Try.prog 16 #[valV k n s o] w fun e w' => e = .returned r ∧ Below w.heap.size w w' := by
  rw [← H.out]; exact clean_any k n o s w
end Go.Proofs.Yteifmjhkedhomaa
