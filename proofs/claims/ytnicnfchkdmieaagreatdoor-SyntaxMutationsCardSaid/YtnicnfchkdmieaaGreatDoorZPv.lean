/- Pv -/
import Derived.Test.YtnicnfchkdmieaaGreatDoorZa
set_option linter.unusedVariables false
set_option linter.unusedSimpArgs false
namespace Go.Proofs.YtnicnfchkdmieaaGreatDoor
open Go.RowKit
attribute [local go_sem] ByteArray.mk_append_mk bs_get bs_cut bs_end
def strV (l : List UInt8) : Value := .string ⟨l.toArray⟩
def StrsAt (w : World) (v : Value) (l : List (List UInt8)) : Prop :=
 ∃ (a : Option Addr) (cap : Nat), v = .slice a l.length cap ∧ l.length ≤ 9223372036854775000 ∧ ((a = none → cap = 0) ∧ l.length ≤ cap) ∧ (l ≠ [] → ∃ b off, a = some ⟨b, off, none⟩ ∧ ∀ k (h : k < l.length), w.cell? ⟨b, off + k, none⟩ = some (strV l[k]))
theorem StrsAt.of_own {w : World} {B : Nat} {v : Value} {l : List (List UInt8)} (h : w.ownsRow B 9 1 v l.length (l.map strV)) (hl : l.length ≤ 9223372036854775000) : StrsAt w v l := by
 obtain ⟨h1, h2⟩ := h
 rcases h2 with ⟨hv, h0⟩ | ⟨g, cap, cur, hv, hb, hg, hn, hm, hs, ht⟩
 ·obtain rfl : l = [] := List.eq_nil_of_length_eq_zero h0
  exact ⟨none, 0, hv, hl, ⟨fun _ => rfl, by simp⟩, fun h => absurd rfl h⟩
 ·refine ⟨_, cap, hv, hl, ⟨(fun h => by cases h), by omega⟩, fun _ => ⟨g, 0, rfl, fun k hk => ?_⟩⟩
  rw [cell_of_row w g (0 + k) cur 9 (0, 0) hg]
  have h3 : (l.map strV)[k]? = some (strV l[k]) := by simp [hk]
  rw [← ht, List.getElem?_take, if_pos (by omega)] at h3
  simpa using h3
theorem StrsAt.below' {w w' : World} {B : Nat} {v : Value} {l : List (List UInt8)} (h : StrsAt w v l) (hb : Below B w w') (hB : ∀ a n c, v = .slice (some a) n c → l ≠ [] → a.block < B) : StrsAt w' v l := by
 obtain ⟨a, cap, hv, hl, hz, hc⟩ := h
 refine ⟨a, cap, hv, hl, hz, fun hn => ?_⟩
 obtain ⟨b, off, ha, hk⟩ := hc hn
 refine ⟨b, off, ha, fun k h => ?_⟩
 have := hB ⟨b, off, none⟩ _ _ (by rw [hv, ha]) hn
 rw [hb.cell (p := ⟨b, off + k, none⟩) this]
 exact hk k h
theorem StrsAt.lt {w : World} {v : Value} {l : List (List UInt8)} (h : StrsAt w v l) : ∀ a n c, v = .slice (some a) n c → l ≠ [] → a.block < w.heap.size := by
 intro a n c hv hn
 obtain ⟨a', cap, hv', hl, _, hc⟩ := h
 obtain ⟨b, off, ha, hk⟩ := hc hn
 rw [hv', ha] at hv
 cases hv
 have hp : 0 < l.length := List.length_pos_iff.2 hn
 exact World.block_lt_of_cell? w ⟨b, off + 0, none⟩ (hk 0 hp)
theorem StrsAt.below {w w' : World} {v : Value} {l : List (List UInt8)} (h : StrsAt w v l) (hb : Below w.heap.size w w') : StrsAt w' v l := h.below' hb h.lt
theorem StrsAt.nil (w : World) : StrsAt w (.slice none 0 0) [] := ⟨none, 0, rfl, by simp, ⟨fun _ => rfl, by simp⟩, fun h => absurd rfl h⟩
theorem StrsAt.form {w : World} {v : Value} {l : List (List UInt8)} (h : StrsAt w v l) : ∃ a c, v = .slice a l.length c ∧ l.length ≤ c := by
 obtain ⟨a, c, hv, _, hz, _⟩ := h
 exact ⟨a, c, hv, hz.2⟩
def PathV (w : World) (p : Value) (root : Bool) (up : Int) (l : List (List UInt8)) : Prop := ∃ v, p = .agg #[.bool root, .int .i64 up, v] ∧ StrsAt w v l
theorem PathV.mk {w : World} {v : Value} {root : Bool} {up : Int} {l : List (List UInt8)} (h : StrsAt w v l) : PathV w (.agg #[.bool root, .int .i64 up, v]) root up l := ⟨_, rfl, h⟩
theorem PathV.below {w w' : World} {p : Value} {root : Bool} {up : Int} {l : List (List UInt8)} (h : PathV w p root up l) (hb : Below w.heap.size w w') : PathV w' p root up l := by
 obtain ⟨v, rfl, hs⟩ := h
 exact ⟨v, rfl, hs.below hb⟩
abbrev pObj (root : Bool) (up : Int) (v : Value) : Obj := .cells #[.bool root, .int .i64 up, v] 144 (0, 0)
def BoxAt (w wr : World) (root : Bool) (up : Int) (v : Value) (l : List (List UInt8)) : Prop :=
 wr.heap[w.heap.size]? = some (pObj root up v) ∧ StrsAt wr v l ∧ Below w.heap.size w wr
theorem BoxAt.start {w : World} {root : Bool} {up : Int} {v : Value} {l : List (List UInt8)} (h : StrsAt w v l) : BoxAt w (w.alloc (.cells #[.bool root, .int .i64 up, v] 144)) root up v l :=
 ⟨heap_alloc_new w _, h.below ((Below.refl _ _).alloc (Nat.le_refl _) _), (Below.refl _ _).alloc (Nat.le_refl _) _⟩
theorem BoxAt.below {w wr w2 : World} {root : Bool} {up : Int} {v : Value} {l : List (List UInt8)} (h : BoxAt w wr root up v l) (hb : Below wr.heap.size wr w2) : BoxAt w w2 root up v l :=
 ⟨blk_below h.1 hb, h.2.1.below hb, bel_then h.2.2 (Nat.le_refl _) hb⟩
theorem BoxAt.drewN {w wr : World} {root : Bool} {up : Int} {v : Value} {l : List (List UInt8)} (h : BoxAt w wr root up v l) (n : Nat) : BoxAt w (wr.drewN n) root up v l :=
 h.below (below_drewN (Below.refl _ _) n)
theorem BoxAt.cells {w wr : World} {root : Bool} {up : Int} {v : Value} {l : List (List UInt8)} (h : BoxAt w wr root up v l) : wr.cell? ⟨w.heap.size, 0, none⟩ = some (.bool root) ∧ wr.cell? ⟨w.heap.size, 1, none⟩ = some (.int .i64 up) ∧ wr.cell? ⟨w.heap.size, 2, none⟩ = some v := cells3 h.1
theorem BoxAt.pathV {w wr : World} {root : Bool} {up : Int} {v : Value} {l : List (List UInt8)} (h : BoxAt w wr root up v l) : PathV wr (.agg #[.bool root, .int .i64 up, v]) root up l := ⟨v, rfl, h.2.1⟩
end Go.Proofs.YtnicnfchkdmieaaGreatDoor
