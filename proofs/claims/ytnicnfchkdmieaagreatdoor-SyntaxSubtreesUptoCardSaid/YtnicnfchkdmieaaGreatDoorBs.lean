/- Strings as lists of bytes: the rules of the walk, and small laws on worlds. -/
import Derived.Test.YtnicnfchkdmieaaGreatDoorProg
import Derived.WalkKit
import Derived.WalkLawsBesides
import Derived.WalkSpells
import Derived.WalkSmall
import Derived.OneCell
import Derived.Lib.Hide
import Derived.Deep.QuietTactic
import Derived.BigQuiet
import Derived.Deep.AppendLies
import Derived.Deep.CutBlock
import Derived.Deep.DeepCutAuto
namespace Go.Proofs.YtnicnfchkdmieaaGreatDoor
open Go.RowKit

theorem bs_get (l : List UInt8) (i : Nat) (h : i < (ByteArray.mk l.toArray).size) : (ByteArray.mk l.toArray)[i] = l[i]'(by have := h; simp only [ByteArray.size_mk', List.size_toArray] at this; exact this) := rfl
theorem bs_cut (l : List UInt8) (a b : Nat) : (ByteArray.mk l.toArray).extract a b = ⟨((l.drop a).take (b - a)).toArray⟩ := by
  apply ByteArray.ext
  simp [ByteArray.data_extract]
theorem bs_end (s : List UInt8) (p : Nat) : List.take (s.length - p) (List.drop p s) = List.drop p s := by rw [← List.length_drop, List.take_length]
/-- A string's value. -/
def strV' (l : List UInt8) : Value := .string ⟨l.toArray⟩
theorem bel_new {w w2 : World} {o : Obj} (hb : Below (w.heap.size + 1) (w.alloc o) w2) : w2.heap[w.heap.size]? = some o :=
  (hb.block _ (by omega)).trans (heap_alloc_new w _)
theorem cells3 {w : World} {b t : Nat} {c0 c1 c2 : Value} (h : w.heap[b]? = some (.cells #[c0, c1, c2] t (0, 0))) : w.cell? ⟨b, 0, none⟩ = some c0 ∧ w.cell? ⟨b, 1, none⟩ = some c1 ∧ w.cell? ⟨b, 2, none⟩ = some c2 :=
  ⟨(cell_of_row w _ 0 _ _ _ h).trans rfl, (cell_of_row w _ 1 _ _ _ h).trans rfl, (cell_of_row w _ 2 _ _ _ h).trans rfl⟩
theorem own_slice {w : World} {B e z : Nat} {v : Value} {n : Nat} {xs : List Value} (h : w.ownsRow B e z v n xs) : ∃ (a : Option Addr) (m c : Nat), v = .slice a m c := by
  rcases h.2 with ⟨h, _⟩ | ⟨g, cap, cur, h, _⟩
  · exact ⟨_, _, _, h⟩
  · exact ⟨_, _, _, h⟩
theorem own_below {w w' : World} {B e z : Nat} {v : Value} {n : Nat} {xs : List Value} (h : w.ownsRow B e z v n xs) (hb : Below w.heap.size w w') : w'.ownsRow B e z v n xs := by
  obtain ⟨hl, hv⟩ := h
  refine ⟨hl, ?_⟩
  rcases hv with hv | ⟨g, cap, cur, h1, h2, h3, h4⟩
  · exact .inl hv
  · exact .inr ⟨g, cap, cur, h1, h2, (hb.block g (lt_of_block h3)).trans h3, h4⟩
theorem own_base {w : World} {B B' e z : Nat} {v : Value} {n : Nat} {xs : List Value} (h : w.ownsRow B e z v n xs) (hB : B' ≤ B) : w.ownsRow B' e z v n xs := by
  obtain ⟨hl, hv⟩ := h
  refine ⟨hl, ?_⟩
  rcases hv with hv | ⟨g, cap, cur, h1, h2, h3, h4⟩
  · exact .inl hv
  · exact .inr ⟨g, cap, cur, h1, by omega, h3, h4⟩
theorem own_setCell {w : World} {B e z : Nat} {v : Value} {n : Nat} {xs : List Value} (h : w.ownsRow B e z v n xs) (p : Addr) (u : Value) (hp : p.block < B) : (w.setCell p u).ownsRow B e z v n xs := by
  obtain ⟨hl, hv⟩ := h
  refine ⟨hl, ?_⟩
  rcases hv with hv | ⟨g, cap, cur, h1, h2, h3, h4⟩
  · exact .inl hv
  · refine .inr ⟨g, cap, cur, h1, h2, ?_, h4⟩
    rw [heap_setCell_other _ _ _ _ (by omega)]
    exact h3
theorem blk_alloc {w : World} {b : Nat} {o : Obj} (h : w.heap[b]? = some o) (o' : Obj) : (w.alloc o').heap[b]? = some o := (Below.heap_alloc w o' b (lt_of_block h)).trans h
theorem blk_grown {w w' : World} {b : Nat} {o : Obj} {row : Option Nat} (h : w.heap[b]? = some o) (hg : w.grownBy w' row) (hne : some b ≠ row) : w'.heap[b]? = some o := (hg.block b (lt_of_block h) hne).trans h
theorem blk_below {w w' : World} {b : Nat} {o : Obj} (h : w.heap[b]? = some o) (hb : Below w.heap.size w w') : w'.heap[b]? = some o := (hb.block b (lt_of_block h)).trans h
theorem blk_other {w : World} {b : Nat} {o : Obj} (h : w.heap[b]? = some o) (p : Addr) (u : Value) (hp : b ≠ p.block) : (w.setCell p u).heap[b]? = some o := (heap_setCell_other w p b u hp).trans h
theorem blk_drewN {w : World} {b : Nat} {o : Obj} (h : w.heap[b]? = some o) (n : Nat) : (w.drewN n).heap[b]? = some o := h
theorem free3 {w : World} {b t : Nat} {cs : Array Value} (h : w.heap[b]? = some (.cells cs t (0, 0))) (j : Nat) : w.frozen? ⟨b, j, none⟩ = false := frozen_of_row _ _ _ _ _ h
/-- What a call leaves: all that was there, as it was; then what another leaves. -/
theorem bel_then {B : Nat} {w w1 w2 : World} (h : Below B w w1) (hB : B ≤ w.heap.size) (k : Below w1.heap.size w1 w2) : Below B w w2 := h.trans (k.mono (Nat.le_trans hB h.size))
theorem cells4 {w : World} {b t : Nat} {c0 c1 c2 c3 : Value} (h : w.heap[b]? = some (.cells #[c0, c1, c2, c3] t (0, 0))) : w.cell? ⟨b, 0, none⟩ = some c0 ∧ w.cell? ⟨b, 1, none⟩ = some c1 ∧ w.cell? ⟨b, 2, none⟩ = some c2 ∧ w.cell? ⟨b, 3, none⟩ = some c3 :=
  ⟨(cell_of_row w _ 0 _ _ _ h).trans rfl, (cell_of_row w _ 1 _ _ _ h).trans rfl, (cell_of_row w _ 2 _ _ _ h).trans rfl, (cell_of_row w _ 3 _ _ _ h).trans rfl⟩
theorem cell_old {w : World} {a : Addr} {v : Value} (h : w.cell? a = some v) (o : Obj) : (w.alloc o).cell? a = some v :=
  (World.cell?_of_block (w := w) (Below.heap_alloc w o a.block (World.block_lt_of_cell? w a h))).trans h
/-- Four cells of a block of the call's own are stored. -/
def set4 (w : World) (b : Nat) (a0 a1 a2 a3 : Value) : World := (((w.setCell ⟨b, 0, none⟩ a0).setCell ⟨b, 1, none⟩ a1).setCell ⟨b, 2, none⟩ a2).setCell ⟨b, 3, none⟩ a3
theorem put4 {w : World} {b t : Nat} {c0 c1 c2 c3 : Value} (h : w.heap[b]? = some (.cells #[c0, c1, c2, c3] t (0, 0))) (a0 a1 a2 a3 : Value) :
    ((((w.setCell ⟨b, 0, none⟩ a0).setCell ⟨b, 1, none⟩ a1).setCell ⟨b, 2, none⟩ a2).setCell ⟨b, 3, none⟩ a3).heap[b]? = some (.cells #[a0, a1, a2, a3] t (0, 0)) := by
  have e0 := (heap_setCell_same w _ 0 _ _ a0 h)
  have e1 := (heap_setCell_same _ _ 1 _ _ a1 e0)
  have e2 := (heap_setCell_same _ _ 2 _ _ a2 e1)
  exact (heap_setCell_same _ _ 3 _ _ a3 e2).trans rfl
theorem bel4 {B : Nat} {w w1 : World} {b : Nat} (h : Below B w w1) (hb : B ≤ b) (a0 a1 a2 a3 : Value) : Below B w ((((w1.setCell ⟨b, 0, none⟩ a0).setCell ⟨b, 1, none⟩ a1).setCell ⟨b, 2, none⟩ a2).setCell ⟨b, 3, none⟩ a3) :=
  (((h.setCell hb _).setCell hb _).setCell hb _).setCell hb _
theorem bel_alloc {w w1 : World} {o : Obj} (h : Below (w.alloc o).heap.size (w.alloc o) w1) : Below w.heap.size w w1 ∧ w1.heap[w.heap.size]? = some o := by
  have h' : Below (w.heap.size + 1) (w.alloc o) w1 := by simpa using h
  exact ⟨((Below.refl _ _).alloc (Nat.le_refl _) o).trans (h'.mono (by omega)), bel_new h'⟩
theorem own_row {w : World} {B e z : Nat} {v : Value} {n : Nat} {xs : List Value} (h : w.ownsRow B e z v n xs) {k : Nat} (hk : v.ownBlock = some k) : B ≤ k := by
  rcases h.2 with ⟨rfl, _⟩ | ⟨g, cap, cur, rfl, hg, _⟩
  · cases hk
  · injection hk with hk; subst hk; exact hg
theorem own_grown {w w' : World} {B e z : Nat} {v : Value} {n : Nat} {xs : List Value} {row : Option Nat} (h : w.ownsRow B e z v n xs) (hg : w.grownBy w' row) (hp : ∀ g, v.ownBlock = some g → row ≠ some g) : w'.ownsRow B e z v n xs := by
  refine ⟨h.1, ?_⟩
  rcases h.2 with h0 | ⟨g, cap, cur, rfl, hg', hb, h3⟩
  · exact .inl h0
  · exact .inr ⟨g, cap, cur, rfl, hg', blk_grown hb hg (fun e => hp g rfl e.symm), h3⟩
/-- The type of the row's block. -/
theorem own_type {w : World} {B e z : Nat} {v : Value} {n : Nat} {xs : List Value} (h : w.ownsRow B e z v n xs) {g : Nat} (hg : v.ownBlock = some g) : ∃ cur, w.heap[g]? = some (.cells cur e (0, 0)) := by
  rcases h.2 with ⟨rfl, _⟩ | ⟨g', cap, cur, rfl, _, hb, _⟩
  · cases hg
  · injection hg with hg
    subst hg
    exact ⟨cur, hb⟩
theorem own_lt {w : World} {B e z : Nat} {v : Value} {n : Nat} {xs : List Value} (h : w.ownsRow B e z v n xs) {g : Nat} (hg : v.ownBlock = some g) : g < w.heap.size := by
  obtain ⟨c, hc⟩ := own_type h hg
  exact lt_of_block hc
end Go.Proofs.YtnicnfchkdmieaaGreatDoor
