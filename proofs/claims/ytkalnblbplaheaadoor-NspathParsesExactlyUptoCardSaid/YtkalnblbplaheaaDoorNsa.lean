/- Clone, isAbsolute, Parent (2): the walks. -/
import Derived.Test.YtkalnblbplaheaaDoorNsv
import Derived.Test.YtkalnblbplaheaaDoorShelf
import Derived.Test.YtkalnblbplaheaaDoorPlan
import Derived.Laws.AppendOwnNone
namespace Go.Proofs.YtkalnblbplaheaaDoor
open Go.RowKit
set_option linter.unusedVariables false
attribute [local go_sem] ByteArray.mk_append_mk bs_get bs_cut bs_end

theorem infoStr : (Tryd.prog.info? 9).map (fun i => (i.zero, i.size, i.bytes)) = some (some (.string ⟨#[]⟩), 1, 16) := by kernel_rfl
/-- A slice of strings, of the call's own, comes back. -/
def SPost (w : World) (l : List (List UInt8)) (e : Ending) (w' : World) : Prop := ∃ v, e = .returned v ∧ w'.ownsRow w.heap.size 9 1 v l.length (l.map strV) ∧ Below w.heap.size w w'
theorem own_nil (w : World) (B : Nat) : w.ownsRow B 9 1 (.slice none 0 0) 0 [] := ⟨rfl, .inl ⟨rfl, rfl⟩⟩
theorem map_strV (l : List (List UInt8)) : ((l.map fun x => (⟨x.toArray⟩ : ByteArray)).take l.length).map Value.string = l.map strV := by
  rw [List.take_of_length_le (by simp), List.map_map]; rfl
theorem clone_any (v : Value) (l : List (List UInt8)) (w : World) (h : StrsAt w v l) (hl : l.length ≤ 1000000) : Calls Tryd.prog 46 #[v] w (SPost w l) := by
  obtain ⟨a, cap, rfl, hl2, hz, hc⟩ := h
  by_cases hn : l = []
  · subst hn
    cases a with
    | none => exact (Tryd.slices_Clone_string_nil _ _ w).mono fun e w' ⟨he, hw⟩ => ⟨_, he, own_nil _ _, hw ▸ Below.refl _ _⟩
    | some a => exact (Tryd.slices_Clone_string_zero a cap w).mono fun e w' ⟨v', he, ho, _, hb⟩ => ⟨_, he, ho, hb⟩
  · obtain ⟨b, off, rfl, hk⟩ := hc hn
    refine (Tryd.slices_Clone_string b off l.length cap (l.map fun x => (⟨x.toArray⟩ : ByteArray)) w (by simp) (by omega) ?_).mono fun e w' ⟨v', he, ho, _, hb⟩ => ⟨_, he, by rw [← map_strV]; exact ho, hb⟩
    intro j hj
    rw [List.length_map] at hj
    rw [hk j hj]
    simp [strV, List.getD, hj]
/-- Strings appended to strings of the call's own. -/
theorem wpList_append_strs {w : World} {ops : Array Oper} {rest : List Oper} {o : Oper} {a : Act} {Q : Exit → Act → World → Prop} (hgd : o.guard = none) (s x : Operand)
    (ho : o.op = .call { callee := .builtin .append, args := #[s, x], argTypes := #[22, 22] })
    (base : Nat) (v : Value) (l1 : List (List UInt8)) (hs : a.eval s = v) (hown : w.ownsRow base 9 1 v l1.length (l1.map strV))
    (y : Value) (l2 : List (List UInt8)) (hx : a.eval x = y) (hy : StrsAt w y l2) (hlen : l1.length + l2.length ≤ 1000000) (hbase : base ≤ w.heap.size)
    (h : ∀ v' w', w'.ownsRow base 9 1 v' (l1 ++ l2).length ((l1 ++ l2).map strV) → w.grownBy w' v.ownBlock → wpList Tryd.prog ops Q rest (a.put o.dst v') w') : wpList Tryd.prog ops Q (o :: rest) a w := by
  obtain ⟨i0, hi, hz0, hz1, hz2⟩ := info_parts infoStr
  obtain ⟨ad, cap, rfl, hl, hz, hc⟩ := hy
  cases ad with
  | none =>
    have hn : l2 = [] := by
      by_cases hn : l2 = []
      · exact hn
      · obtain ⟨b, off, hb, _⟩ := hc hn; cases hb
    subst hn
    rw [hz.1 rfl] at hx
    refine wpList_append_own_none hgd s x _ ho base 9 i0 1 Tryd.underlying22 hi v l1.length _ hs hown hx ?_
    have := h v w (by simpa using hown) (World.grownBy.refl _ _)
    exact this
  | some ad =>
    refine wpList_append_own _ hgd s x _ ho base 9 i0 (.string ⟨#[]⟩) 1 16 Tryd.underlying22 hi hz0 hz1 hz2 rfl (by decide) v l1.length _ hs hown ad l2.length cap (l2.map strV) hx (by simp) ?_ ?_ (by unfold maxLen; omega) (by omega) hbase ?_
    · intro j u hj
      rw [List.getElem?_map] at hj
      have hj2 : j < l2.length := by
        rcases Nat.lt_or_ge j l2.length with h' | h'
        · exact h'
        · rw [List.getElem?_eq_none h'] at hj; cases hj
      rw [List.getElem?_eq_getElem hj2] at hj
      injection hj with hj
      subst hj
      have hn : l2 ≠ [] := by rintro rfl; simp at hj2
      obtain ⟨b, off, hb, hk⟩ := hc hn
      injection hb with hb
      subst hb
      have e : (⟨b, off, none⟩ : Addr).add j = ⟨b, off + j, none⟩ := by by_cases h : j = 0 <;> simp [Addr.add, h]
      rw [e]
      exact hk j hj2
    · intro u hu
      obtain ⟨x, _, rfl⟩ := List.mem_map.1 hu
      rfl
    · intro v' w' h1 h2 _
      refine h v' w' ?_ h2
      rw [List.length_append, List.map_append]
      exact h1
/-- Is the path absolute. -/
def absB (root : Bool) (up : Int) (l : List (List UInt8)) : Bool := root && validB root up l
set_option maxHeartbeats 1000000 in
theorem isAbs_any (p : Value) (root : Bool) (up : Int) (l : List (List UInt8)) (w : World) (hp : PathV w p root up l) (hx : ∀ x ∈ l, x.length ≤ 9223372036854775000) :
    Calls Tryd.prog 45 #[p] w fun e w' => e = .returned (.bool (absB root up l)) ∧ Below w.heap.size w w' := by
  obtain ⟨v, rfl, hs⟩ := hp
  have HA := Lib.hid (BoxAt.start (root := root) (up := up) hs)
  have HX := Lib.hid hx
  clear hx
  obtain ⟨a, cap, rfl, hcap⟩ := hs.form
  clear hs
  cases root
  · go_enter Tryd.func45, Tryd.ntmps45
    go_wp2_with fail
    go_ret
    exact ⟨rfl, HA.out.2.2⟩
  · obtain ⟨b, hb⟩ : ∃ b, validB true up l = b := ⟨_, rfl⟩
    have HV := Lib.hid hb
    clear hb
    have HN := Lib.hid (nsValid_any _ true up l _ HA.out.pathV HX.out)
    go_enter Tryd.func45, Tryd.ntmps45
    go_wp2_with fail
    ((with_reducible refine HN.out.mono ?_))
    rintro e w1 ⟨rfl, hb⟩
    have HB := Lib.hid (HA.out.below hb).2.2
    clear hb HN HA
    rw [HV.out]
    go_wp2_with fail
    go_ret
    exact ⟨by unfold absB; rw [HV.out]; rfl, HB.out⟩
/-- A path, its segments in memory of the call's own, and a bool come back. -/
def PPost (w : World) (root : Bool) (up : Int) (l : List (List UInt8)) (ok : Bool) (e : Ending) (w' : World) : Prop := ∃ v, e = .returned (.tuple #[.agg #[.bool root, .int .i64 up, v], .bool ok]) ∧ w'.ownsRow w.heap.size 9 1 v l.length (l.map strV) ∧ Below w.heap.size w w'
/-- The box and the result's block. -/
def PAt (w wr : World) (root : Bool) (up : Int) (v : Value) (l : List (List UInt8)) : Prop := BoxAt w wr root up v l ∧ wr.heap[w.heap.size + 1]? = some (pObj false 0 (.slice none 0 0))
theorem PAt.start {w : World} {root : Bool} {up : Int} {v : Value} {l : List (List UInt8)} (h : StrsAt w v l) : PAt w ((w.alloc (.cells #[.bool root, .int .i64 up, v] 24)).alloc (.cells #[.bool false, .int .i64 0, .slice none 0 0] 24)) root up v l :=
  ⟨(BoxAt.start h).below ((Below.refl _ _).alloc (Nat.le_refl _) _), heap_alloc2_new _ _ _⟩
theorem PAt.below {w wr w2 : World} {root : Bool} {up : Int} {v : Value} {l : List (List UInt8)} (h : PAt w wr root up v l) (hb : Below wr.heap.size wr w2) : PAt w w2 root up v l := ⟨h.1.below hb, blk_below h.2 hb⟩
/-- Three cells of a block are stored. -/
theorem put3 {w : World} {b t : Nat} {c0 c1 c2 : Value} (h : w.heap[b]? = some (.cells #[c0, c1, c2] t (0, 0))) (a0 a1 a2 : Value) :
    (((w.setCell ⟨b, 0, none⟩ a0).setCell ⟨b, 1, none⟩ a1).setCell ⟨b, 2, none⟩ a2).heap[b]? = some (.cells #[a0, a1, a2] t (0, 0)) := by
  have e0 := (heap_setCell_same w _ 0 _ _ a0 h)
  have e1 := (heap_setCell_same _ _ 1 _ _ a1 e0)
  exact (heap_setCell_same _ _ 2 _ _ a2 e1).trans rfl
theorem bel3 {B : Nat} {w w1 : World} {b : Nat} (h : Below B w w1) (hb : B ≤ b) (a0 a1 a2 : Value) : Below B w (((w1.setCell ⟨b, 0, none⟩ a0).setCell ⟨b, 1, none⟩ a1).setCell ⟨b, 2, none⟩ a2) :=
  ((h.setCell hb _).setCell hb _).setCell hb _
theorem own_set3 {w : World} {B e z : Nat} {v : Value} {n : Nat} {xs : List Value} (h : w.ownsRow B e z v n xs) (b : Nat) (a0 a1 a2 : Value) (hb : b < B) : (((w.setCell ⟨b, 0, none⟩ a0).setCell ⟨b, 1, none⟩ a1).setCell ⟨b, 2, none⟩ a2).ownsRow B e z v n xs :=
  own_setCell (own_setCell (own_setCell h _ _ hb) _ _ hb) _ _ hb
theorem ret_par (tmps : Array Value) (w : World) (b : Nat) (c0 c1 c2 : Value) (h2 : tmps.getD 2 undef = .pointer (some ⟨b, 0, none⟩)) (hb : w.heap[b]? = some (.cells #[c0, c1, c2] 24 (0, 0))) :
    (results Tryd.f25 tmps).run Tryd.prog w = .ok (.tuple #[.agg #[c0, c1, c2], tmps.getD 3 undef]) w := by
  obtain ⟨e0, e1, e2⟩ := cells3 hb
  have h2' : tmps[2]?.getD undef = .pointer (some ⟨b, 0, none⟩) := by rw [← h2]; simp
  simp [results]
  go_simp
set_option maxHeartbeats 1000000 in
theorem parent_no1 (p : Value) (root : Bool) (up : Int) (l : List (List UInt8)) (w : World) (hp : PathV w p root up l) (hx : ∀ x ∈ l, x.length ≤ 9223372036854775000) (hv : absB root up l = false) : Calls Tryd.prog 25 #[p] w (PPost w false 0 [] false) := by
  obtain ⟨v, rfl, hs⟩ := hp
  have HA := Lib.hid (PAt.start (root := root) (up := up) hs)
  have HX := Lib.hid hx
  clear hx
  obtain ⟨a, cap, rfl, hcap⟩ := hs.form
  clear hs
  have HV := Lib.hid hv
  clear hv
  have HN := Lib.hid (isAbs_any _ root up l _ HA.out.1.pathV HX.out)
  obtain ⟨b0, b1, b2⟩ := HA.out.1.cells
  go_enter Tryd.func25, Tryd.ntmps25
  go_wp2_with fail
  ((with_reducible refine HN.out.mono ?_))
  rintro e w1 ⟨rfl, hb⟩
  have HA1 := Lib.hid (HA.out.below hb)
  clear hb HN HA b0 b1 b2
  rw [HV.out]
  have hn := HA1.out.2
  obtain ⟨c0, c1, c2⟩ := cells3 hn
  have f0 := free3 hn 0
  have f1 := free3 hn 1
  have f2 := free3 hn 2
  clear hn
  go_wp2_with fail
  exact bodyPost_ret (ret_par _ _ _ _ _ _ rfl (put3 HA1.out.2 _ _ _)) rfl ⟨_, rfl, own_nil _ _, bel3 HA1.out.1.2.2 (by omega) _ _ _⟩
set_option maxHeartbeats 1000000 in
theorem parent_no2 (p : Value) (root : Bool) (up : Int) (w : World) (hp : PathV w p root up []) (hv : absB root up [] = true) : Calls Tryd.prog 25 #[p] w (PPost w false 0 [] false) := by
  have hx : ∀ x ∈ ([] : List (List UInt8)), x.length ≤ 9223372036854775000 := by simp
  obtain ⟨l, hl⟩ : ∃ l : List (List UInt8), Hid (l = []) := ⟨_, Lib.hid rfl⟩
  rw [← hl.out] at hp hv hx
  obtain ⟨v, rfl, hs⟩ := hp
  have HA := Lib.hid (PAt.start (root := root) (up := up) hs)
  have HX := Lib.hid hx
  clear hx
  obtain ⟨a, cap, rfl, hcap⟩ := hs.form
  clear hs
  have HV := Lib.hid hv
  clear hv
  have HN := Lib.hid (isAbs_any _ root up l _ HA.out.1.pathV HX.out)
  obtain ⟨b0, b1, b2⟩ := HA.out.1.cells
  go_enter Tryd.func25, Tryd.ntmps25
  go_wp2_with fail
  ((with_reducible refine HN.out.mono ?_))
  rintro e w1 ⟨rfl, hb⟩
  have HA1 := Lib.hid (HA.out.below hb)
  clear hb HN HA b0 b1 b2
  rw [HV.out]
  obtain rfl := hl.out
  obtain ⟨b0, b1, b2⟩ := HA1.out.1.cells
  have hn := HA1.out.2
  obtain ⟨c0, c1, c2⟩ := cells3 hn
  have f0 := free3 hn 0
  have f1 := free3 hn 1
  have f2 := free3 hn 2
  clear hn
  go_wp2_with fail
  exact bodyPost_ret (ret_par _ _ _ _ _ _ rfl (put3 HA1.out.2 _ _ _)) rfl ⟨_, rfl, own_nil _ _, bel3 HA1.out.1.2.2 (by omega) _ _ _⟩
set_option maxHeartbeats 1000000 in
theorem parent_yes (p : Value) (root : Bool) (up : Int) (l : List (List UInt8)) (w : World) (hp : PathV w p root up l) (hx : ∀ x ∈ l, x.length ≤ 9223372036854775000) (hv : absB root up l = true) (h0 : 0 < l.length) (h1 : l.length ≤ 32) : Calls Tryd.prog 25 #[p] w (PPost w true 0 (l.take (l.length - 1)) true) := by
  have hz : ((l.length : Int) == 0) = false := by rw [beq_eq_false_iff_ne]; omega
  obtain ⟨v, rfl, hs⟩ := hp
  have HA := Lib.hid (PAt.start (root := root) (up := up) hs)
  have HX := Lib.hid hx
  clear hx
  obtain ⟨a, cap, rfl, hcap⟩ := hs.form
  clear hs
  have HV := Lib.hid hv
  clear hv
  have HN := Lib.hid (isAbs_any _ root up l _ HA.out.1.pathV HX.out)
  obtain ⟨b0, b1, b2⟩ := HA.out.1.cells
  go_enter Tryd.func25, Tryd.ntmps25
  go_wp2_with fail
  ((with_reducible refine HN.out.mono ?_))
  rintro e w1 ⟨rfl, hb⟩
  have HA1 := Lib.hid (HA.out.below hb)
  clear hb HN HA b0 b1 b2
  rw [HV.out]
  obtain ⟨b0, b1, b2⟩ := HA1.out.1.cells
  have hcap2 : (l.length : Int) - 1 ≤ (cap : Int) := by omega
  have h00 : (1 : Int) ≤ (l.length : Int) := by omega
  have HC := Lib.hid (clone_any (.slice a (l.length - 1) cap) (l.take (l.length - 1)) w1 (HA1.out.1.2.1.front (l.length - 1) (by omega)) (by rw [List.length_take]; omega))
  go_wp2_with fail
  ((with_reducible refine HC.out.mono ?_))
  rintro e w2 ⟨v2, rfl, ho, hb⟩
  obtain ⟨a2, m2, c2, rfl⟩ := own_slice ho
  have HO := Lib.hid ho
  have HA2 := Lib.hid (HA1.out.below hb)
  have HZ : Hid (w.heap.size + 1 < w1.heap.size) := Lib.hid (lt_of_block HA1.out.2)
  clear ho hb HC HA1 b0 b1 b2
  have hn := HA2.out.2
  obtain ⟨d0, d1, d2⟩ := cells3 hn
  have f0 := free3 hn 0
  have f1 := free3 hn 1
  have f2 := free3 hn 2
  clear hn
  go_wp2_with fail
  exact bodyPost_ret (ret_par _ _ _ _ _ _ rfl (put3 HA2.out.2 _ _ _)) rfl ⟨_, rfl, own_base (own_set3 HO.out _ _ _ _ HZ.out) (by have := HZ.out; omega), bel3 HA2.out.1.2.2 (by omega) _ _ _⟩
/-- Parent: the path without its last segment. -/
def parR (root : Bool) (up : Int) (l : List (List UInt8)) : Bool := absB root up l && decide (l ≠ [])
theorem absB_len {root : Bool} {up : Int} {l : List (List UInt8)} (h : absB root up l = true) : root = true ∧ up = 0 ∧ l.length ≤ 32 ∧ (∀ x ∈ l, segB x = true) := by
  unfold absB validB preB at h
  simp only [Bool.and_eq_true, decide_eq_true_eq] at h
  obtain ⟨h1, ⟨h2, h3, h4, h5, h6⟩, h7⟩ := h
  have h4' := h4 h1
  exact ⟨h1, h4', by omega, fun x hx => List.all_eq_true.1 h7 x hx⟩
theorem parent_any (p : Value) (root : Bool) (up : Int) (l : List (List UInt8)) (w : World) (hp : PathV w p root up l) (hx : ∀ x ∈ l, x.length ≤ 9223372036854775000) :
    Calls Tryd.prog 25 #[p] w (PPost w (parR root up l) 0 (if parR root up l = true then l.dropLast else []) (parR root up l)) := by
  unfold parR
  cases hv : absB root up l
  · exact parent_no1 p root up l w hp hx hv
  · by_cases hn : l = []
    · subst hn; exact parent_no2 p root up w hp hv
    · have e : (true && decide (l ≠ [])) = true := by simp [hn]
      rw [e, if_pos rfl, List.dropLast_eq_take]
      exact parent_yes p root up l w hp hx hv (List.length_pos_iff.2 hn) (absB_len hv).2.2.1
end Go.Proofs.YtkalnblbplaheaaDoor
