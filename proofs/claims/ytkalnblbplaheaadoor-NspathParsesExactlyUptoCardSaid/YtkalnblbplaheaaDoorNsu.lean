/- Paths in variables of the call's own. -/
import Derived.Test.YtkalnblbplaheaaDoorNst
import Derived.Test.YtkalnblbplaheaaDoorBag
namespace Go.Proofs.YtkalnblbplaheaaDoor
open Go.RowKit
set_option linter.unusedVariables false
set_option linter.unusedSimpArgs false
attribute [local go_sem] ByteArray.mk_append_mk bs_get bs_cut bs_end

/-- A variable: its block and the path in it. -/
structure PB where
  b : Nat
  r : Bool
  n : Int
  v : Value
abbrev PB.obj (p : PB) : Obj := pObj p.r p.n p.v
/-- Variables of the call's own that hold paths; and slices of strings of its own. -/
def St (w wr : World) (bl : List PB) (ol : List (Value × List (List UInt8))) : Prop :=
  Below w.heap.size w wr ∧ (bl.map PB.b).Nodup ∧ (∀ p ∈ bl, w.heap.size ≤ p.b ∧ wr.heap[p.b]? = some p.obj) ∧ ∀ q ∈ ol, wr.ownsRow w.heap.size 9 1 q.1 q.2.length (q.2.map strV)
theorem St.bel {w wr : World} {bl : List PB} {ol : List (Value × List (List UInt8))} (h : St w wr bl ol) : Below w.heap.size w wr := h.1
theorem St.below {w wr w2 : World} {bl : List PB} {ol : List (Value × List (List UInt8))} (h : St w wr bl ol) (hb : Below wr.heap.size wr w2) : St w w2 bl ol :=
  ⟨bel_then h.1 (Nat.le_refl _) hb, h.2.1, fun p hp => ⟨(h.2.2.1 p hp).1, blk_below (h.2.2.1 p hp).2 hb⟩, fun q hq => own_below (h.2.2.2 q hq) hb⟩
theorem St.new {w wr : World} {bl : List PB} {ol : List (Value × List (List UInt8))} (h : St w wr bl ol) (r : Bool) (n : Int) (v : Value) : St w (wr.alloc (pObj r n v)) (⟨wr.heap.size, r, n, v⟩ :: bl) ol := by
  obtain ⟨k1, k2⟩ := newBox wr (pObj r n v)
  obtain ⟨h1, h2, h3, h4⟩ := h.below k1
  refine ⟨h1, ?_, ?_, h4⟩
  · rw [List.map_cons, List.nodup_cons]
    refine ⟨fun hm => ?_, h2⟩
    obtain ⟨p, hp, he⟩ := List.mem_map.1 hm
    have := lt_of_block (h.2.2.1 p hp).2
    simp only at he
    omega
  · intro p hp
    rcases List.mem_cons.1 hp with rfl | hp
    · exact ⟨h.1.size, k2⟩
    · exact h3 p hp
theorem St.add {w wr : World} {bl : List PB} {ol : List (Value × List (List UInt8))} (h : St w wr bl ol) {b : Nat} {r : Bool} {n : Int} {v : Value} (hB : w.heap.size ≤ b) (hb : wr.heap[b]? = some (pObj r n v)) (hne : ∀ p ∈ bl, p.b ≠ b) : St w wr (⟨b, r, n, v⟩ :: bl) ol := by
  obtain ⟨h1, h2, h3, h4⟩ := h
  refine ⟨h1, ?_, ?_, h4⟩
  · rw [List.map_cons, List.nodup_cons]
    refine ⟨fun hm => ?_, h2⟩
    obtain ⟨p, hp, he⟩ := List.mem_map.1 hm
    exact hne p hp he
  · intro p hp
    rcases List.mem_cons.1 hp with rfl | hp
    · exact ⟨hB, hb⟩
    · exact h3 p hp
/-- A variable is stored. -/
theorem St.put {w wr : World} {bl1 bl2 : List PB} {ol : List (Value × List (List UInt8))} {b : Nat} {r : Bool} {n : Int} {v : Value} (h : St w wr (bl1 ++ ⟨b, r, n, v⟩ :: bl2) ol) (r' : Bool) (n' : Int) (v' : Value) :
    St w (((wr.setCell ⟨b, 0, none⟩ (.bool r')).setCell ⟨b, 1, none⟩ (.int .i64 n')).setCell ⟨b, 2, none⟩ v') (bl1 ++ ⟨b, r', n', v'⟩ :: bl2) ol := by
  obtain ⟨h1, h2, h3, h4⟩ := h
  obtain ⟨hB, hb⟩ := h3 ⟨b, r, n, v⟩ (by simp)
  simp only at hB hb
  have hne : ∀ p ∈ bl1 ++ bl2, p.b ≠ b := by
    intro p hp he
    rw [List.map_append, List.map_cons, List.nodup_append] at h2
    obtain ⟨n1, n2, n3⟩ := h2
    rcases List.mem_append.1 hp with hp | hp
    · exact n3 p.b (List.mem_map_of_mem hp) b (by simp) he
    · rw [List.nodup_cons] at n2
      exact n2.1 (List.mem_map.2 ⟨p, hp, he⟩)
  have keep : ∀ p ∈ bl1 ++ bl2, w.heap.size ≤ p.b ∧ (((wr.setCell ⟨b, 0, none⟩ (.bool r')).setCell ⟨b, 1, none⟩ (.int .i64 n')).setCell ⟨b, 2, none⟩ v').heap[p.b]? = some p.obj := by
    intro p hp
    have hn := hne p hp
    obtain ⟨k1, k2⟩ := h3 p (by rcases List.mem_append.1 hp with h | h <;> simp [h])
    exact ⟨k1, blk_other (blk_other (blk_other k2 _ _ hn) _ _ hn) _ _ hn⟩
  refine ⟨bel3 h1 hB _ _ _, by simpa using h2, ?_, ?_⟩
  · intro p hp
    rcases List.mem_append.1 hp with hp | hp
    · exact keep p (List.mem_append_left _ hp)
    · rcases List.mem_cons.1 hp with rfl | hp
      · exact ⟨hB, put3 hb _ _ _⟩
      · exact keep p (List.mem_append_right _ hp)
  · intro q hq
    exact own_put3 (h4 q hq) b (own_not (h4 q hq) hb) _ _ _
/-- Its field Root is stored. -/
theorem St.putRoot {w wr : World} {bl1 bl2 : List PB} {ol : List (Value × List (List UInt8))} {b : Nat} {r : Bool} {n : Int} {v : Value} (h : St w wr (bl1 ++ ⟨b, r, n, v⟩ :: bl2) ol) (r' : Bool) :
    St w (wr.setCell ⟨b, 0, none⟩ (.bool r')) (bl1 ++ ⟨b, r', n, v⟩ :: bl2) ol := by
  obtain ⟨h1, h2, h3, h4⟩ := h
  obtain ⟨hB, hb⟩ := h3 ⟨b, r, n, v⟩ (by simp)
  simp only at hB hb
  have hne : ∀ p ∈ bl1 ++ bl2, p.b ≠ b := by
    intro p hp he
    rw [List.map_append, List.map_cons, List.nodup_append] at h2
    obtain ⟨n1, n2, n3⟩ := h2
    rcases List.mem_append.1 hp with hp | hp
    · exact n3 p.b (List.mem_map_of_mem hp) b (by simp) he
    · rw [List.nodup_cons] at n2
      exact n2.1 (List.mem_map.2 ⟨p, hp, he⟩)
  have keep : ∀ p ∈ bl1 ++ bl2, w.heap.size ≤ p.b ∧ (wr.setCell ⟨b, 0, none⟩ (.bool r')).heap[p.b]? = some p.obj := by
    intro p hp
    have hn := hne p hp
    obtain ⟨k1, k2⟩ := h3 p (by rcases List.mem_append.1 hp with h | h <;> simp [h])
    exact ⟨k1, blk_other k2 _ _ hn⟩
  refine ⟨h1.setCell hB _, by simpa using h2, ?_, ?_⟩
  · intro p hp
    rcases List.mem_append.1 hp with hp | hp
    · exact keep p (List.mem_append_left _ hp)
    · rcases List.mem_cons.1 hp with rfl | hp
      · exact ⟨hB, (heap_setCell_same wr _ 0 _ _ _ hb).trans rfl⟩
      · exact keep p (List.mem_append_right _ hp)
  · intro q hq
    exact own_setOther (h4 q hq) _ _ (own_not (h4 q hq) hb)
theorem St.segs {w wr : World} {bl1 bl2 : List PB} {ol : List (Value × List (List UInt8))} {b : Nat} {r : Bool} {n : Int} {v : Value} (h : St w wr (bl1 ++ ⟨b, r, n, v⟩ :: bl2) ol) (v' : Value) :
    St w (wr.setCell ⟨b, 2, none⟩ v') (bl1 ++ ⟨b, r, n, v'⟩ :: bl2) ol := by
  obtain ⟨h1, h2, h3, h4⟩ := h
  obtain ⟨hB, hb⟩ := h3 ⟨b, r, n, v⟩ (by simp)
  simp only at hB hb
  have hne : ∀ p ∈ bl1 ++ bl2, p.b ≠ b := by
    intro p hp he
    rw [List.map_append, List.map_cons, List.nodup_append] at h2
    obtain ⟨n1, n2, n3⟩ := h2
    rcases List.mem_append.1 hp with hp | hp
    · exact n3 p.b (List.mem_map_of_mem hp) b (by simp) he
    · rw [List.nodup_cons] at n2
      exact n2.1 (List.mem_map.2 ⟨p, hp, he⟩)
  have keep : ∀ p ∈ bl1 ++ bl2, w.heap.size ≤ p.b ∧ (wr.setCell ⟨b, 2, none⟩ v').heap[p.b]? = some p.obj := by
    intro p hp
    have hn := hne p hp
    obtain ⟨k1, k2⟩ := h3 p (by rcases List.mem_append.1 hp with h | h <;> simp [h])
    exact ⟨k1, blk_other k2 _ _ hn⟩
  refine ⟨h1.setCell hB _, by simpa using h2, ?_, ?_⟩
  · intro p hp
    rcases List.mem_append.1 hp with hp | hp
    · exact keep p (List.mem_append_left _ hp)
    · rcases List.mem_cons.1 hp with rfl | hp
      · exact ⟨hB, (heap_setCell_same wr _ 2 _ _ _ hb).trans rfl⟩
      · exact keep p (List.mem_append_right _ hp)
  · intro q hq
    exact own_setOther (h4 q hq) _ _ (own_not (h4 q hq) hb)
theorem St.own {w wr : World} {bl : List PB} {ol : List (Value × List (List UInt8))} (h : St w wr bl ol) {B : Nat} {v : Value} {l : List (List UInt8)} (ho : wr.ownsRow B 9 1 v l.length (l.map strV)) (hB : w.heap.size ≤ B) : St w wr bl ((v, l) :: ol) :=
  ⟨h.1, h.2.1, h.2.2.1, fun q hq => by
    rcases List.mem_cons.1 hq with rfl | hq
    · exact own_base ho hB
    · exact h.2.2.2 q hq⟩
theorem St.has {w wr : World} {bl : List PB} {ol : List (Value × List (List UInt8))} (h : St w wr bl ol) {b : Nat} {r : Bool} {n : Int} {v : Value} (hm : (⟨b, r, n, v⟩ : PB) ∈ bl) : wr.heap[b]? = some (pObj r n v) := (h.2.2.1 _ hm).2
theorem St.cells {w wr : World} {bl : List PB} {ol : List (Value × List (List UInt8))} (h : St w wr bl ol) {b : Nat} {r : Bool} {n : Int} {v : Value} (hm : (⟨b, r, n, v⟩ : PB) ∈ bl) : wr.cell? ⟨b, 0, none⟩ = some (.bool r) ∧ wr.cell? ⟨b, 1, none⟩ = some (.int .i64 n) ∧ wr.cell? ⟨b, 2, none⟩ = some v := cells3 (h.has hm)
theorem St.owns {w wr : World} {bl : List PB} {ol : List (Value × List (List UInt8))} (h : St w wr bl ol) {v : Value} {l : List (List UInt8)} (hm : (v, l) ∈ ol) : wr.ownsRow w.heap.size 9 1 v l.length (l.map strV) := h.2.2.2 _ hm
theorem St.strs {w wr : World} {bl : List PB} {ol : List (Value × List (List UInt8))} (h : St w wr bl ol) {v : Value} {l : List (List UInt8)} (hm : (v, l) ∈ ol) (hl : l.length ≤ 1000) : StrsAt wr v l := StrsAt.of_own (h.owns hm) (by omega)
theorem St.size {w wr : World} {bl : List PB} {ol : List (Value × List (List UInt8))} (h : St w wr bl ol) : w.heap.size ≤ wr.heap.size := h.1.size
theorem validB_mk {root : Bool} {up : Int} {l : List (List UInt8)} (h0 : 0 ≤ up) (h1 : up ≤ 32) (h2 : root = true → up = 0) (h3 : (l.length : Int) ≤ 32 - up) (h4 : root = true ∨ 0 < up ∨ 0 < l.length) (h5 : ∀ x ∈ l, segB x = true) : validB root up l = true := by
  unfold validB preB
  rw [decide_eq_true ⟨h0, h1, h2, h3, h4⟩, Bool.true_and]
  exact List.all_eq_true.2 h5
theorem absB_mk {l : List (List UInt8)} (h : l.length ≤ 32) (h5 : ∀ x ∈ l, segB x = true) : absB true 0 l = true := by
  unfold absB
  rw [Bool.true_and]
  exact validB_mk (by omega) (by omega) (fun _ => rfl) (by omega) (.inl rfl) h5
theorem joinV_rel {l1 l2 : List (List UInt8)} (ha : absB true 0 l1 = true) (hv : validB false 0 l2 = true) : joinV true 0 l1 false 0 l2 = if l1.length + l2.length ≤ 32 then some (l1 ++ l2) else none := by
  unfold joinV
  rw [ha, hv]
  simp only [Bool.true_eq_false, if_false, Bool.false_eq_true]
  by_cases h : l1.length + l2.length ≤ 32
  · rw [if_neg (by omega), if_pos h]
    simp
  · rw [if_pos (by omega), if_neg h]
theorem absL_seg (l : List (List UInt8)) : ∀ x ∈ absL l, segB x = true := absK_seg l _
end Go.Proofs.YtkalnblbplaheaaDoor
