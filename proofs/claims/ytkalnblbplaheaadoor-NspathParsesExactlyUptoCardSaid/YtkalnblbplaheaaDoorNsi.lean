/- Lists of paths in memory of the call's own. -/
import Derived.Test.YtkalnblbplaheaaDoorNsh
namespace Go.Proofs.YtkalnblbplaheaaDoor
open Go.RowKit
set_option linter.unusedVariables false
attribute [local go_sem] ByteArray.mk_append_mk bs_get bs_cut bs_end

theorem infoPath : (Tryd.prog.info? 24).map (fun i => (i.zero, i.size, i.bytes)) = some (some (.agg #[.bool false, .int .i64 0, .slice none 0 0]), 3, 40) := by kernel_rfl
/-- The row's block is not this one: the row stays. -/
theorem own_setOther {w : World} {B e z : Nat} {v : Value} {n : Nat} {xs : List Value} (h : w.ownsRow B e z v n xs) (p : Addr) (u : Value) (hp : v.ownBlock ≠ some p.block) : (w.setCell p u).ownsRow B e z v n xs := by
  refine ⟨h.1, ?_⟩
  rcases h.2 with h0 | ⟨g, cap, cur, rfl, hg, hb, h3⟩
  · exact .inl h0
  · exact .inr ⟨g, cap, cur, rfl, hg, blk_other hb _ _ (fun e => hp (by show some g = _; rw [e])), h3⟩
theorem own_grown {w w' : World} {B e z : Nat} {v : Value} {n : Nat} {xs : List Value} {row : Option Nat} (h : w.ownsRow B e z v n xs) (hg : w.grownBy w' row) (hp : ∀ g, v.ownBlock = some g → row ≠ some g) : w'.ownsRow B e z v n xs := by
  refine ⟨h.1, ?_⟩
  rcases h.2 with h0 | ⟨g, cap, cur, rfl, hg', hb, h3⟩
  · exact .inl h0
  · exact .inr ⟨g, cap, cur, rfl, hg', blk_grown hb hg (fun e => hp g rfl e.symm), h3⟩
/-- The type of the row's block. -/
theorem own_type {w : World} {B e z : Nat} {v : Value} {n : Nat} {xs : List Value} (h : w.ownsRow B e z v n xs) {g : Nat} (hg : v.ownBlock = some g) : ∃ cur, w.heap[g]? = some (.cells cur e (0, 0)) := by
  rcases h.2 with ⟨rfl, _⟩ | ⟨g', cap, cur, rfl, _, hb, _⟩
  · cases hg
  · injection hg with hg
    subst hg
    exact ⟨cur, hb⟩
theorem own_apart {w : World} {B B' z z' : Nat} {v v' : Value} {n n' : Nat} {xs xs' : List Value} (h : w.ownsRow B 9 z v n xs) (h' : w.ownsRow B' 24 z' v' n' xs') : ∀ g, v.ownBlock = some g → v'.ownBlock ≠ some g := by
  intro g h1 h2
  obtain ⟨c, hc⟩ := own_type h h1
  obtain ⟨c', hc'⟩ := own_type h' h2
  rw [hc] at hc'
  injection hc' with e
  injection e with _ e2
  exact absurd e2 (by decide)
theorem own_not {w : World} {B z : Nat} {v : Value} {n : Nat} {xs : List Value} (h : w.ownsRow B 9 z v n xs) {b : Nat} {cs : Array Value} (hb : w.heap[b]? = some (.cells cs 24 (0, 0))) : v.ownBlock ≠ some b := by
  intro h1
  obtain ⟨c, hc⟩ := own_type h h1
  rw [hc] at hb
  injection hb with e
  injection e with _ e2
  exact absurd e2 (by decide)
theorem own_lt {w : World} {B e z : Nat} {v : Value} {n : Nat} {xs : List Value} (h : w.ownsRow B e z v n xs) {g : Nat} (hg : v.ownBlock = some g) : g < w.heap.size := by
  obtain ⟨c, hc⟩ := own_type h hg
  exact lt_of_block hc
/-- The cells of the paths. -/
def segCells : List Value → List Value
  | [] => []
  | v :: r => .bool true :: .int .i64 0 :: v :: segCells r
theorem segCells_app : ∀ (a b : List Value), segCells (a ++ b) = segCells a ++ segCells b
  | [], b => rfl
  | v :: r, b => by rw [List.cons_append, segCells, segCells, segCells_app r b]; rfl
theorem segCells_len : ∀ (a : List Value), (segCells a).length = a.length * 3
  | [] => rfl
  | v :: r => by rw [segCells]; simp only [List.length_cons, segCells_len r]; omega
theorem segCells_get : ∀ (a : List Value) (k : Nat) (hk : k < a.length), (segCells a)[3 * k]? = some (.bool true) ∧ (segCells a)[3 * k + 1]? = some (.int .i64 0) ∧ (segCells a)[3 * k + 2]? = some a[k]
  | v :: r, 0, _ => ⟨rfl, rfl, rfl⟩
  | v :: r, k + 1, hk => by
    have h := segCells_get r k (by simpa using hk)
    have e : 3 * (k + 1) = 3 * k + 3 := by omega
    rw [e, segCells]
    exact h
/-- A slice of paths (all of them absolute), all in memory of the call's own. -/
def PsOwn (w : World) (B : Nat) (v : Value) (ls : List (List (List UInt8))) : Prop :=
  ∃ vs : List Value, vs.length = ls.length ∧ w.ownsRow B 24 3 v ls.length (segCells vs) ∧ ∀ i (h : i < vs.length) (h' : i < ls.length), w.ownsRow B 9 1 vs[i] ls[i].length (ls[i].map strV)
theorem PsOwn.nil (w : World) (B : Nat) : PsOwn w B (.slice none 0 0) [] := ⟨[], rfl, ⟨rfl, .inl ⟨rfl, rfl⟩⟩, fun i h => absurd h (by simp)⟩
theorem PsOwn.below {w w' : World} {B : Nat} {v : Value} {ls : List (List (List UInt8))} (h : PsOwn w B v ls) (hb : Below w.heap.size w w') : PsOwn w' B v ls := by
  obtain ⟨vs, h1, h2, h3⟩ := h
  exact ⟨vs, h1, own_below h2 hb, fun i a b => own_below (h3 i a b) hb⟩
theorem PsOwn.base {w : World} {B B' : Nat} {v : Value} {ls : List (List (List UInt8))} (h : PsOwn w B v ls) (hB : B' ≤ B) : PsOwn w B' v ls := by
  obtain ⟨vs, h1, h2, h3⟩ := h
  exact ⟨vs, h1, own_base h2 hB, fun i a b => own_base (h3 i a b) hB⟩
theorem PsOwn.put {w : World} {B : Nat} {v : Value} {ls : List (List (List UInt8))} (h : PsOwn w B v ls) {b : Nat} {cs : Array Value} (hb : w.heap[b]? = some (.cells cs 24 (0, 0))) (hv : v.ownBlock ≠ some b) (j : Nat) (u : Value) : PsOwn (w.setCell ⟨b, j, none⟩ u) B v ls := by
  obtain ⟨vs, h1, h2, h3⟩ := h
  exact ⟨vs, h1, own_setOther h2 _ _ hv, fun i a b => own_setOther (h3 i a b) _ _ (own_not (h3 i a b) hb)⟩
theorem PsOwn.form {w : World} {B : Nat} {v : Value} {ls : List (List (List UInt8))} (h : PsOwn w B v ls) : ∃ a c, v = .slice a ls.length c := by
  obtain ⟨vs, h1, h2, h3⟩ := h
  rcases h2.2 with ⟨rfl, h0⟩ | ⟨g, cap, cur, rfl, _⟩
  · exact ⟨none, 0, by rw [h0]⟩
  · exact ⟨_, cap, rfl⟩
theorem PsOwn.lt {w : World} {B : Nat} {v : Value} {ls : List (List (List UInt8))} (h : PsOwn w B v ls) {g : Nat} (hg : v.ownBlock = some g) : g < w.heap.size ∧ B ≤ g := by
  obtain ⟨vs, h1, h2, h3⟩ := h
  exact ⟨own_lt h2 hg, own_row h2 hg⟩
/-- One path appended. -/
theorem wpList_append_path {w : World} {ops : Array Oper} {rest : List Oper} {o : Oper} {a : Act} {Q : Exit → Act → World → Prop} (hgd : o.guard = none) (s x : Operand)
    (ho : o.op = .call { callee := .builtin .append, args := #[s, x], argTypes := #[37, 37] })
    (B : Nat) (v : Value) (ls : List (List (List UInt8))) (hs : a.eval s = v) (hown : PsOwn w B v ls) (b : Nat) (u : Value) (l : List (List UInt8)) (hu : w.ownsRow B 9 1 u l.length (l.map strV))
    (hx : a.eval x = .slice (some ⟨b, 0, none⟩) 1 1) (hb : w.heap[b]? = some (pObj true 0 u)) (hlen : ls.length ≤ 1000000) (hB : B ≤ w.heap.size)
    (h : ∀ v' w', PsOwn w' B v' (ls ++ [l]) → w.grownBy w' v.ownBlock → wpList Tryd.prog ops Q rest (a.put o.dst v') w') : wpList Tryd.prog ops Q (o :: rest) a w := by
  obtain ⟨i0, hi, hz0, hz1, hz2⟩ := info_parts infoPath
  obtain ⟨vs, k1, k2, k3⟩ := hown
  obtain ⟨c0, c1, c2⟩ := cells3 hb
  have hone : u.oneCell' = true := by
    obtain ⟨a1, m1, c1, rfl⟩ := own_slice hu
    rfl
  refine wpList_append_own _ hgd s x _ ho B 24 i0 (.agg #[.bool false, .int .i64 0, .slice none 0 0]) 3 40 Tryd.underlying37 hi hz0 hz1 hz2 rfl (by decide) v ls.length _ hs k2 ⟨b, 0, none⟩ 1 1 (segCells [u]) hx rfl ?_ ?_ (by unfold maxLen; omega) (by omega) hB ?_
  · intro j z hj
    match j, hj with
    | 0, hj => cases hj; exact c0
    | 1, hj => cases hj; exact c1
    | 2, hj => cases hj; exact c2
  · intro z hz
    simp only [segCells, List.mem_cons, List.not_mem_nil, or_false] at hz
    rcases hz with rfl | rfl | rfl
    · rfl
    · rfl
    · exact hone
  · intro v' w' h1 h2 _
    refine h v' w' ⟨vs ++ [u], by simp [k1], by rw [List.length_append, segCells_app]; exact h1, ?_⟩ h2
    intro i hi1 hi2
    by_cases hlt : i < vs.length
    · rw [List.getElem_append_left hlt]
      have hlt2 : i < ls.length := by omega
      rw [List.getElem_append_left hlt2]
      exact own_grown (k3 i hlt hlt2) h2 (own_apart (k3 i hlt hlt2) k2)
    · obtain rfl : i = vs.length := by simp at hi1; omega
      have e1 : (vs ++ [u])[vs.length] = u := by simp
      have e2 : (ls ++ [l])[vs.length] = l := by simp [k1]
      rw [e1, e2]
      exact own_grown hu h2 (own_apart hu k2)
end Go.Proofs.YtkalnblbplaheaaDoor
