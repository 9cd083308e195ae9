/- Parse: the walk. -/
import Derived.Test.YtkalnblbplaheaaDoorNsf
import Derived.Test.YtkalnblbplaheaaDoorShelf2
namespace Go.Proofs.YtkalnblbplaheaaDoor
open Go.RowKit
set_option linter.unusedVariables false
attribute [local go_sem] ByteArray.mk_append_mk bs_get bs_cut bs_end

/-- A text cut at its dots. -/
def splitD : List UInt8 → List (List UInt8)
  | [] => [[]]
  | c :: s => if c = 46 then [] :: splitD s else match splitD s with | [] => [[c]] | x :: r => (c :: x) :: r
theorem splitD_dot (s : List UInt8) : splitD (46 :: s) = [] :: splitD s := by rw [splitD, if_pos rfl]
theorem splitD_ne (s : List UInt8) : splitD s ≠ [] := by
  cases s with
  | nil => simp [splitD]
  | cons c s =>
    unfold splitD
    split
    · simp
    · split <;> simp
theorem splitD_other (c : UInt8) (s : List UInt8) (h : c ≠ 46) (x : List UInt8) (r : List (List UInt8)) (hs : splitD s = x :: r) : splitD (c :: s) = (c :: x) :: r := by
  rw [splitD, if_neg h, hs]
theorem splitD_length : ∀ s : List UInt8, (splitD s).length = s.count 46 + 1
  | [] => rfl
  | c :: s => by
    have ih := splitD_length s
    by_cases h : c = 46
    · subst h; rw [splitD_dot]; simp [ih]
    · cases hs : splitD s with
      | nil => exact absurd hs (splitD_ne s)
      | cons x r =>
        rw [splitD_other c s h x r hs]
        rw [hs] at ih
        rw [List.count_cons_of_ne (by simpa using h)]
        simpa using ih
theorem index_dot (s : List UInt8) : Lib.index (46 :: s) [46] = 0 := by simp [Lib.index]
theorem index_other (c : UInt8) (s : List UInt8) (h : c ≠ 46) : Lib.index (c :: s) [46] = if Lib.index s [46] == -1 then -1 else Lib.index s [46] + 1 := by
  rw [Lib.index, if_neg (by simpa using fun e => h e.symm)]
theorem splitK_D : ∀ s : List UInt8, Lib.splitK [46] 0 (s.count 46) s = splitD s
  | [] => rfl
  | c :: s => by
    have ih := splitK_D s
    by_cases h : c = 46
    · subst h
      rw [splitD_dot, List.count_cons_self, Lib.splitK, index_dot]
      simp [ih]
    · rw [List.count_cons_of_ne (by simpa using h)]
      cases hk : s.count 46 with
      | zero =>
        rw [hk, Lib.splitK] at ih
        rw [Lib.splitK, splitD_other c s h s [] ih.symm]
      | succ k =>
        rw [hk, Lib.splitK] at ih
        rw [Lib.splitK, index_other c s h]
        by_cases hi : (Lib.index s [46] == -1) = true
        · rw [if_pos hi] at ih
          rw [if_pos hi, if_pos (by rfl), splitD_other c s h s [] ih.symm]
        · rw [if_neg hi] at ih
          have hi' : Lib.index s [46] ≠ -1 := by simpa using hi
          have hge := Lib.index_ge s [46]
          rw [if_neg hi, if_neg (by simp; omega), splitD_other c s h _ _ ih.symm]
          obtain ⟨i, hi2⟩ : ∃ i : Nat, Lib.index s [46] = i := ⟨(Lib.index s [46]).toNat, by omega⟩
          rw [hi2]
          have e1 : ((i : Int) + 1).toNat = i + 1 := by omega
          have e2 : ((i : Int)).toNat = i := by omega
          rw [e1, e2]
          simp
theorem splitB_D (s : List UInt8) : Lib.countB ⟨s.toArray⟩ ⟨#[46]⟩ = s.count 46 ∧ (Lib.splitB ⟨#[46]⟩ 0 (s.count 46) ⟨s.toArray⟩).map Value.string = (splitD s).map strV := by
  refine ⟨Lib.count_one 46 s, ?_⟩
  have h := Lib.splitB_data ⟨#[46]⟩ 0 (s.count 46) ⟨s.toArray⟩
  have h2 : Lib.splitK (ByteArray.mk #[46]).data.toList 0 (s.count 46) (ByteArray.mk s.toArray).data.toList = splitD s := splitK_D s
  rw [h2] at h
  rw [← h, List.map_map]
  apply List.map_congr_left
  intro x _
  show Value.string x = .string ⟨x.data.toList.toArray⟩
  simp
theorem own_cells (w : World) (B : Nat) (hB : B ≤ w.heap.size) (l : List (List UInt8)) (n : Nat) (hn : n = l.length) (hl : l.length ≤ 5000000000) : (w.alloc (.cells (l.map strV).toArray 9)).ownsRow B 9 1 (.slice (some ⟨w.heap.size, 0, none⟩) n n) l.length (l.map strV) := by
  subst hn
  refine ⟨by simp, .inr ⟨w.heap.size, l.length, (l.map strV).toArray, rfl, hB, heap_alloc_new _ _, Nat.le_refl _, by unfold maxLen; omega, by simp, ?_⟩⟩
  rw [List.take_of_length_le (by simp)]
theorem split_dots (s : List UInt8) (m : Int) (w : World) (hm : w.cell? ⟨0, 0, none⟩ = some (.int .i64 m)) (hs : s.length ≤ 4000000000) :
    Calls Tryd.prog 41 #[.string ⟨s.toArray⟩, .string ⟨#[46]⟩] w (SPost w (splitD s)) := by
  refine (Tryd.strings_Split ⟨s.toArray⟩ ⟨#[46]⟩ m w (by show s.toArray.size < _; simp; omega) hm (by decide)).mono ?_
  rintro e w' ⟨he, hw⟩
  rw [(splitB_D s).1] at he hw
  rw [(splitB_D s).2] at hw
  subst hw
  refine ⟨_, he, own_cells w _ (Nat.le_refl _) _ _ (splitD_length s).symm (by have := splitD_length s; have := List.count_le_length (a := (46 : UInt8)) (l := s); omega), (Below.refl _ _).alloc (Nat.le_refl _) _⟩
/-- What Parse finds. -/
def parRoot (s : List UInt8) : Bool := Lib.hasPrefix s [92]
def parRest (s : List UInt8) : List UInt8 := if parRoot s then s.drop 1 else s.dropWhile (· == 94)
def parUp (s : List UInt8) : Nat := if parRoot s then 0 else (s.takeWhile (· == 94)).length
def parSegs (s : List UInt8) : List (List UInt8) := if parRest s = [] then [] else splitD (parRest s)
def parOk (s : List UInt8) : Bool := validB (parRoot s) (parUp s) (parSegs s)
/-- Parse's result. -/
def parPost (w : World) (s : List UInt8) : Ending → World → Prop := PPost w (parOk s && parRoot s) (if parOk s = true then (parUp s : Int) else 0) (if parOk s = true then parSegs s else []) (parOk s)
/-- The result's block and the path's. -/
def QAt (w wr : World) (root : Bool) (up : Int) (v : Value) : Prop := wr.heap[w.heap.size]? = some (pObj false 0 (.slice none 0 0)) ∧ wr.heap[w.heap.size + 1]? = some (pObj root up v) ∧ Below w.heap.size w wr
theorem QAt.start (w : World) : QAt w ((w.alloc (.cells #[.bool false, .int .i64 0, .slice none 0 0] 24)).alloc (.cells #[.bool false, .int .i64 0, .slice none 0 0] 24)) false 0 (.slice none 0 0) :=
  ⟨blk_alloc (heap_alloc_new _ _) _, heap_alloc2_new _ _ _, ((Below.refl _ _).alloc (Nat.le_refl _) _).alloc (by simp) _⟩
theorem QAt.below {w wr w2 : World} {root : Bool} {up : Int} {v : Value} (h : QAt w wr root up v) (hb : Below wr.heap.size wr w2) : QAt w w2 root up v := ⟨blk_below h.1 hb, blk_below h.2.1 hb, bel_then h.2.2 (Nat.le_refl _) hb⟩
theorem QAt.root {w wr : World} {root : Bool} {up : Int} {v : Value} (h : QAt w wr root up v) (r : Bool) : QAt w (wr.setCell ⟨w.heap.size + 1, 0, none⟩ (.bool r)) r up v :=
  ⟨blk_other h.1 _ _ (by show w.heap.size ≠ w.heap.size + 1; omega), (heap_setCell_same _ _ 0 _ _ _ h.2.1).trans rfl, h.2.2.setCell (by show w.heap.size ≤ w.heap.size + 1; omega) _⟩
theorem QAt.up {w wr : World} {root : Bool} {up : Int} {v : Value} (h : QAt w wr root up v) (u : Int) : QAt w (wr.setCell ⟨w.heap.size + 1, 1, none⟩ (.int .i64 u)) root u v :=
  ⟨blk_other h.1 _ _ (by show w.heap.size ≠ w.heap.size + 1; omega), (heap_setCell_same _ _ 1 _ _ _ h.2.1).trans rfl, h.2.2.setCell (by show w.heap.size ≤ w.heap.size + 1; omega) _⟩
theorem QAt.segs {w wr : World} {root : Bool} {up : Int} {v : Value} (h : QAt w wr root up v) (u : Value) : QAt w (wr.setCell ⟨w.heap.size + 1, 2, none⟩ u) root up u :=
  ⟨blk_other h.1 _ _ (by show w.heap.size ≠ w.heap.size + 1; omega), (heap_setCell_same _ _ 2 _ _ _ h.2.1).trans rfl, h.2.2.setCell (by show w.heap.size ≤ w.heap.size + 1; omega) _⟩
theorem QAt.cell {w wr : World} {root : Bool} {up : Int} {v : Value} (h : QAt w wr root up v) {m : Int} (hm : w.cell? ⟨0, 0, none⟩ = some (.int .i64 m)) : wr.cell? ⟨0, 0, none⟩ = some (.int .i64 m) := by
  rw [h.2.2.cell (p := ⟨0, 0, none⟩) (World.block_lt_of_cell? w _ hm)]; exact hm
theorem ret_parse (tmps : Array Value) (w : World) (b : Nat) (c0 c1 c2 : Value) (h2 : tmps.getD 2 undef = .pointer (some ⟨b, 0, none⟩)) (hb : w.heap[b]? = some (.cells #[c0, c1, c2] 24 (0, 0))) :
    (results Tryd.f16 tmps).run Tryd.prog w = .ok (.tuple #[.agg #[c0, c1, c2], tmps.getD 3 undef]) w := by
  obtain ⟨e0, e1, e2⟩ := cells3 hb
  have h2' : tmps[2]?.getD undef = .pointer (some ⟨b, 0, none⟩) := by rw [← h2]; simp
  simp [results]
  go_simp
def strLen : Value → Nat
  | .string b => b.size
  | _ => 0
/-- The loop over the carets. -/
def CarJ (root : Bool) (N : Nat) (R : List UInt8) (k : Nat) (r : List UInt8) : Prop := (root = true → k = N ∧ r = R) ∧ (root = false → k + (r.takeWhile (· == 94)).length = N ∧ r.dropWhile (· == 94) = R)
theorem hasPre_caret (r : List UInt8) : Lib.hasPrefix r [94] = true → ∃ t, r = 94 :: t := by
  cases r with
  | nil => intro h; cases h
  | cons c t =>
    intro h
    refine ⟨t, ?_⟩
    have : (94 == c) = true := by simpa [Lib.hasPrefix] using h
    rw [beq_iff_eq.1 this]
theorem hasPre_not (r : List UInt8) (h : Lib.hasPrefix r [94] = false) : r.takeWhile (· == 94) = [] ∧ r.dropWhile (· == 94) = r := by
  cases r with
  | nil => exact ⟨rfl, rfl⟩
  | cons c t =>
    have : (c == 94) = false := by
      cases hc : (c == 94)
      · rfl
      · rw [beq_iff_eq.1 hc] at h; simp [Lib.hasPrefix] at h
    constructor
    · rw [List.takeWhile_cons, this]; rfl
    · rw [List.dropWhile_cons, this]; rfl
theorem CarJ.step {N : Nat} {R : List UInt8} {k : Nat} {t : List UInt8} (h : CarJ false N R k (94 :: t)) : CarJ false N R (k + 1) t := by
  refine ⟨(fun h => by cases h), fun _ => ?_⟩
  obtain ⟨h1, h2⟩ := h.2 rfl
  have e1 : List.takeWhile (· == (94 : UInt8)) (94 :: t) = 94 :: List.takeWhile (· == 94) t := by simp
  have e2 : List.dropWhile (· == (94 : UInt8)) (94 :: t) = List.dropWhile (· == 94) t := by simp
  rw [e1, List.length_cons] at h1
  rw [e2] at h2
  exact ⟨by omega, h2⟩
theorem CarJ.last {root : Bool} {N : Nat} {R : List UInt8} {k : Nat} {r : List UInt8} (h : CarJ root N R k r) (hb : (!root && Lib.hasPrefix r [94]) = false) : k = N ∧ r = R := by
  cases root with
  | true => exact h.1 rfl
  | false =>
    obtain ⟨h1, h2⟩ := h.2 rfl
    obtain ⟨h3, h4⟩ := hasPre_not r (by simpa using hb)
    rw [h3] at h1
    rw [h4] at h2
    exact ⟨by simpa using h1, h2⟩
end Go.Proofs.YtkalnblbplaheaaDoor
