/- Join of both: the walks. -/
import Derived.Test.YtkalnblbplaheaaDoorNsc
namespace Go.Proofs.YtkalnblbplaheaaDoor
open Go.RowKit
set_option linter.unusedVariables false
attribute [local go_sem] ByteArray.mk_append_mk bs_get bs_cut bs_end

/-- Two boxes and the result's block. -/
def J2 (w wr : World) (o1 o2 : Obj) : Prop := (wr.heap[w.heap.size]? = some o1 ∧ wr.heap[w.heap.size + 1]? = some o2 ∧ wr.heap[w.heap.size + 1 + 1]? = some (pObj false 0 (.slice none 0 0))) ∧ Below w.heap.size w wr
theorem J2.start (w : World) (o1 o2 : Obj) : J2 w (((w.alloc o1).alloc o2).alloc (pObj false 0 (.slice none 0 0))) o1 o2 := by
  refine ⟨⟨blk_alloc (blk_alloc (heap_alloc_new w o1) _) _, ?_, ?_⟩, (((Below.refl _ _).alloc (Nat.le_refl _) _).alloc (by simp) _).alloc (by simp; omega) _⟩
  · have e2 := blk_alloc (heap_alloc_new (w.alloc o1) o2) (pObj false 0 (.slice none 0 0))
    simpa using e2
  · have := heap_alloc_new ((w.alloc o1).alloc o2) (pObj false 0 (.slice none 0 0))
    simpa using this
theorem J2.below {w wr w2 : World} {o1 o2 : Obj} (h : J2 w wr o1 o2) (hb : Below wr.heap.size wr w2) : J2 w w2 o1 o2 := ⟨⟨blk_below h.1.1 hb, blk_below h.1.2.1 hb, blk_below h.1.2.2 hb⟩, bel_then h.2 (Nat.le_refl _) hb⟩
theorem grows_ad (w : World) (o : Obj) : Grows w (w.alloc o).drew := Below.drew ((Below.refl _ _).alloc (Nat.le_refl _) _)
theorem pair_cells (w : World) (a b : Value) (t : Nat) : (w.alloc (.cells #[a, b] t)).drew.cell? ⟨w.heap.size, 0, none⟩ = some a ∧ (w.alloc (.cells #[a, b] t)).drew.cell? ⟨w.heap.size, 1, none⟩ = some b :=
  ⟨(cell_of_row (w.alloc (.cells #[a, b] t)).drew _ 0 _ _ _ (heap_alloc_new w _)).trans rfl, (cell_of_row (w.alloc (.cells #[a, b] t)).drew _ 1 _ _ _ (heap_alloc_new w _)).trans rfl⟩
theorem J2.bel {w wr : World} {o1 o2 : Obj} (h : J2 w wr o1 o2) : Below w.heap.size w wr := h.2
theorem J2.drew {w wr : World} {o1 o2 : Obj} (h : J2 w wr o1 o2) : J2 w wr.drew o1 o2 := ⟨h.1, h.2.drew⟩
theorem ret_join (tmps : Array Value) (w : World) (b : Nat) (c0 c1 c2 : Value) (h2 : tmps.getD 4 undef = .pointer (some ⟨b, 0, none⟩)) (hb : w.heap[b]? = some (.cells #[c0, c1, c2] 24 (0, 0))) :
    (results Tryd.f20 tmps).run Tryd.prog w = .ok (.tuple #[.agg #[c0, c1, c2], tmps.getD 5 undef]) w := by
  obtain ⟨e0, e1, e2⟩ := cells3 hb
  have h2' : tmps[4]?.getD undef = .pointer (some ⟨b, 0, none⟩) := by rw [← h2]; simp
  simp [results]
  go_simp
theorem ret_rjoin (tmps : Array Value) (w : World) (b : Nat) (c0 c1 c2 : Value) (h2 : tmps.getD 4 undef = .pointer (some ⟨b, 0, none⟩)) (hb : w.heap[b]? = some (.cells #[c0, c1, c2] 24 (0, 0))) :
    (results Tryd.f21 tmps).run Tryd.prog w = .ok (.tuple #[.agg #[c0, c1, c2], tmps.getD 5 undef]) w := by
  obtain ⟨e0, e1, e2⟩ := cells3 hb
  have h2' : tmps[4]?.getD undef = .pointer (some ⟨b, 0, none⟩) := by rw [← h2]; simp
  simp [results]
  go_simp
set_option maxRecDepth 100000 in
set_option maxHeartbeats 2000000 in
theorem join_no1 (p q : Value) (r1 r2 : Bool) (u1 u2 : Int) (l1 l2 : List (List UInt8)) (w : World) (hp : PathV w p r1 u1 l1) (hq : PathV w q r2 u2 l2) (hx1 : ∀ x ∈ l1, x.length ≤ 9223372036854775000) (hx2 : ∀ x ∈ l2, x.length ≤ 9223372036854775000) (hv1 : absB r1 u1 l1 = false) : Calls Tryd.prog 20 #[p, q] w (PPost w false 0 [] false) := by
  obtain ⟨v1, rfl, hs1⟩ := hp
  obtain ⟨v2, rfl, hs2⟩ := hq
  have S1 := Lib.hid hs1
  have S2 := Lib.hid hs2
  have X1 := Lib.hid hx1
  have X2 := Lib.hid hx2
  clear hx1 hx2
  obtain ⟨s1, cap1, rfl, hcap1⟩ := hs1.form
  obtain ⟨s2, cap2, rfl, hcap2⟩ := hs2.form
  clear hs1 hs2
  have HV1 := Lib.hid hv1
  clear hv1
  have HA := Lib.hid (J2.start w (pObj r1 u1 (.slice s1 l1.length cap1)) (pObj r2 u2 (.slice s2 l2.length cap2)))
  (obtain ⟨a0, a1, a2⟩ := cells3 HA.out.1.1; obtain ⟨b0, b1, b2⟩ := cells3 HA.out.1.2.1)
  go_enter Tryd.func20, Tryd.ntmps20
  go_wp2_with fail
  ((with_reducible refine (isAbs_any _ r1 u1 l1 _ (PathV.mk (S1.out.below HA.out.bel)) X1.out).mono ?_))
  rintro e wx ⟨rfl, hb⟩
  rw [HV1.out]
  have HA2 := Lib.hid (HA.out.below hb)
  clear hb HA
  clear a0 a1 a2 b0 b1 b2
  have HA := HA2
  clear HA2
  (obtain ⟨a0, a1, a2⟩ := cells3 HA.out.1.1; obtain ⟨b0, b1, b2⟩ := cells3 HA.out.1.2.1)
  have hn := HA.out.1.2.2
  obtain ⟨c0, c1, c2⟩ := cells3 hn
  have f0 := free3 hn 0
  have f1 := free3 hn 1
  have f2 := free3 hn 2
  clear hn
  go_wp2_with fail
  exact bodyPost_ret (ret_join _ _ _ _ _ _ rfl (put3 HA.out.1.2.2 _ _ _)) rfl ⟨_, rfl, own_nil _ _, bel3 HA.out.2 (by omega) _ _ _⟩
set_option maxRecDepth 100000 in
set_option maxHeartbeats 2000000 in
theorem join_no2 (p q : Value) (r1 r2 : Bool) (u1 u2 : Int) (l1 l2 : List (List UInt8)) (w : World) (hp : PathV w p r1 u1 l1) (hq : PathV w q r2 u2 l2) (hx1 : ∀ x ∈ l1, x.length ≤ 9223372036854775000) (hx2 : ∀ x ∈ l2, x.length ≤ 9223372036854775000) (hv1 : absB r1 u1 l1 = true) (hv2 : validB r2 u2 l2 = false) : Calls Tryd.prog 20 #[p, q] w (PPost w false 0 [] false) := by
  obtain ⟨v1, rfl, hs1⟩ := hp
  obtain ⟨v2, rfl, hs2⟩ := hq
  have S1 := Lib.hid hs1
  have S2 := Lib.hid hs2
  have X1 := Lib.hid hx1
  have X2 := Lib.hid hx2
  clear hx1 hx2
  obtain ⟨s1, cap1, rfl, hcap1⟩ := hs1.form
  obtain ⟨s2, cap2, rfl, hcap2⟩ := hs2.form
  clear hs1 hs2
  have HV1 := Lib.hid hv1
  clear hv1
  have HV2 := Lib.hid hv2
  clear hv2
  have HA := Lib.hid (J2.start w (pObj r1 u1 (.slice s1 l1.length cap1)) (pObj r2 u2 (.slice s2 l2.length cap2)))
  (obtain ⟨a0, a1, a2⟩ := cells3 HA.out.1.1; obtain ⟨b0, b1, b2⟩ := cells3 HA.out.1.2.1)
  go_enter Tryd.func20, Tryd.ntmps20
  go_wp2_with fail
  ((with_reducible refine (isAbs_any _ r1 u1 l1 _ (PathV.mk (S1.out.below HA.out.bel)) X1.out).mono ?_))
  rintro e wx ⟨rfl, hb⟩
  rw [HV1.out]
  have HA2 := Lib.hid (HA.out.below hb)
  clear hb HA
  clear a0 a1 a2 b0 b1 b2
  have HA := HA2
  clear HA2
  (obtain ⟨a0, a1, a2⟩ := cells3 HA.out.1.1; obtain ⟨b0, b1, b2⟩ := cells3 HA.out.1.2.1)
  go_wp2_with fail
  ((with_reducible refine (nsValid_any _ r2 u2 l2 _ (PathV.mk (S2.out.below HA.out.bel)) X2.out).mono ?_))
  rintro e wx ⟨rfl, hb⟩
  rw [HV2.out]
  have HA2 := Lib.hid (HA.out.below hb)
  clear hb HA
  clear a0 a1 a2 b0 b1 b2
  have HA := HA2
  clear HA2
  (obtain ⟨a0, a1, a2⟩ := cells3 HA.out.1.1; obtain ⟨b0, b1, b2⟩ := cells3 HA.out.1.2.1)
  have hn := HA.out.1.2.2
  obtain ⟨c0, c1, c2⟩ := cells3 hn
  have f0 := free3 hn 0
  have f1 := free3 hn 1
  have f2 := free3 hn 2
  clear hn
  go_wp2_with fail
  exact bodyPost_ret (ret_join _ _ _ _ _ _ rfl (put3 HA.out.1.2.2 _ _ _)) rfl ⟨_, rfl, own_nil _ _, bel3 HA.out.2 (by omega) _ _ _⟩
set_option maxRecDepth 100000 in
set_option maxHeartbeats 2000000 in
theorem join_root (p q : Value) (r1 : Bool) (u1 u2 : Int) (l1 l2 : List (List UInt8)) (w : World) (hp : PathV w p r1 u1 l1) (hq : PathV w q true u2 l2) (hx1 : ∀ x ∈ l1, x.length ≤ 9223372036854775000) (hx2 : ∀ x ∈ l2, x.length ≤ 9223372036854775000) (hv1 : absB r1 u1 l1 = true) (hv2 : validB true u2 l2 = true) (h32 : l2.length ≤ 32) (g32 : l1.length ≤ 32) : Calls Tryd.prog 20 #[p, q] w (PPost w true 0 l2 true) := by
  obtain ⟨v1, rfl, hs1⟩ := hp
  obtain ⟨v2, rfl, hs2⟩ := hq
  have S1 := Lib.hid hs1
  have S2 := Lib.hid hs2
  have X1 := Lib.hid hx1
  have X2 := Lib.hid hx2
  clear hx1 hx2
  obtain ⟨s1, cap1, rfl, hcap1⟩ := hs1.form
  obtain ⟨s2, cap2, rfl, hcap2⟩ := hs2.form
  clear hs1 hs2
  have HV1 := Lib.hid hv1
  clear hv1
  have HV2 := Lib.hid hv2
  clear hv2
  have HA := Lib.hid (J2.start w (pObj r1 u1 (.slice s1 l1.length cap1)) (pObj true u2 (.slice s2 l2.length cap2)))
  (obtain ⟨a0, a1, a2⟩ := cells3 HA.out.1.1; obtain ⟨b0, b1, b2⟩ := cells3 HA.out.1.2.1)
  go_enter Tryd.func20, Tryd.ntmps20
  go_wp2_with fail
  ((with_reducible refine (isAbs_any _ r1 u1 l1 _ (PathV.mk (S1.out.below HA.out.bel)) X1.out).mono ?_))
  rintro e wx ⟨rfl, hb⟩
  rw [HV1.out]
  have HA2 := Lib.hid (HA.out.below hb)
  clear hb HA
  clear a0 a1 a2 b0 b1 b2
  have HA := HA2
  clear HA2
  (obtain ⟨a0, a1, a2⟩ := cells3 HA.out.1.1; obtain ⟨b0, b1, b2⟩ := cells3 HA.out.1.2.1)
  go_wp2_with fail
  ((with_reducible refine (nsValid_any _ true u2 l2 _ (PathV.mk (S2.out.below HA.out.bel)) X2.out).mono ?_))
  rintro e wx ⟨rfl, hb⟩
  rw [HV2.out]
  have HA2 := Lib.hid (HA.out.below hb)
  clear hb HA
  clear a0 a1 a2 b0 b1 b2
  have HA := HA2
  clear HA2
  (obtain ⟨a0, a1, a2⟩ := cells3 HA.out.1.1; obtain ⟨b0, b1, b2⟩ := cells3 HA.out.1.2.1)
  have HZ : Hid (w.heap.size + 1 + 1 < wx.heap.size) := Lib.hid (lt_of_block HA.out.1.2.2)
  go_wp2_with fail
  ((with_reducible refine (clone_any _ l2 _ (S2.out.below HA.out.bel) (by omega)).mono ?_))
  rintro e wy ⟨v3, rfl, ho, hb⟩
  obtain ⟨a3, m3, c3, rfl⟩ := own_slice ho
  have HO := Lib.hid ho
  have HA2 := Lib.hid (HA.out.below hb)
  clear hb HA ho
  clear a0 a1 a2 b0 b1 b2
  have HA := HA2
  clear HA2
  have hn := HA.out.1.2.2
  obtain ⟨c0, c1, c2⟩ := cells3 hn
  have f0 := free3 hn 0
  have f1 := free3 hn 1
  have f2 := free3 hn 2
  clear hn
  go_wp2_with fail
  exact bodyPost_ret (ret_join _ _ _ _ _ _ rfl (put3 HA.out.1.2.2 _ _ _)) rfl ⟨_, rfl, own_base (own_set3 HO.out _ _ _ _ HZ.out) (by have := HZ.out; omega), bel3 HA.out.2 (by omega) _ _ _⟩
set_option maxRecDepth 100000 in
set_option maxHeartbeats 2000000 in
theorem join_far (p q : Value) (r1 : Bool) (u1 u2 : Int) (l1 l2 : List (List UInt8)) (w : World) (hp : PathV w p r1 u1 l1) (hq : PathV w q false u2 l2) (hx1 : ∀ x ∈ l1, x.length ≤ 9223372036854775000) (hx2 : ∀ x ∈ l2, x.length ≤ 9223372036854775000) (hv1 : absB r1 u1 l1 = true) (hv2 : validB false u2 l2 = true) (h32 : l2.length ≤ 32) (g32 : l1.length ≤ 32) (h0 : 0 ≤ u2) (h1 : u2 ≤ 32) (hk : (l1.length : Int) < u2 ∨ 32 < (l1.length : Int) - u2 + (l2.length : Int)) : Calls Tryd.prog 20 #[p, q] w (PPost w false 0 [] false) := by
  obtain ⟨v1, rfl, hs1⟩ := hp
  obtain ⟨v2, rfl, hs2⟩ := hq
  have S1 := Lib.hid hs1
  have S2 := Lib.hid hs2
  have X1 := Lib.hid hx1
  have X2 := Lib.hid hx2
  clear hx1 hx2
  obtain ⟨s1, cap1, rfl, hcap1⟩ := hs1.form
  obtain ⟨s2, cap2, rfl, hcap2⟩ := hs2.form
  clear hs1 hs2
  rcases hk with hk | hk
  · have HV1 := Lib.hid hv1
    clear hv1
    have HV2 := Lib.hid hv2
    clear hv2
    have HA := Lib.hid (J2.start w (pObj r1 u1 (.slice s1 l1.length cap1)) (pObj false u2 (.slice s2 l2.length cap2)))
    (obtain ⟨a0, a1, a2⟩ := cells3 HA.out.1.1; obtain ⟨b0, b1, b2⟩ := cells3 HA.out.1.2.1)
    go_enter Tryd.func20, Tryd.ntmps20
    go_wp2_with fail
    ((with_reducible refine (isAbs_any _ r1 u1 l1 _ (PathV.mk (S1.out.below HA.out.bel)) X1.out).mono ?_))
    rintro e wx ⟨rfl, hb⟩
    rw [HV1.out]
    have HA2 := Lib.hid (HA.out.below hb)
    clear hb HA
    clear a0 a1 a2 b0 b1 b2
    have HA := HA2
    clear HA2
    (obtain ⟨a0, a1, a2⟩ := cells3 HA.out.1.1; obtain ⟨b0, b1, b2⟩ := cells3 HA.out.1.2.1)
    go_wp2_with fail
    ((with_reducible refine (nsValid_any _ false u2 l2 _ (PathV.mk (S2.out.below HA.out.bel)) X2.out).mono ?_))
    rintro e wx ⟨rfl, hb⟩
    rw [HV2.out]
    have HA2 := Lib.hid (HA.out.below hb)
    clear hb HA
    clear a0 a1 a2 b0 b1 b2
    have HA := HA2
    clear HA2
    (obtain ⟨a0, a1, a2⟩ := cells3 HA.out.1.1; obtain ⟨b0, b1, b2⟩ := cells3 HA.out.1.2.1)
    have hn := HA.out.1.2.2
    obtain ⟨c0, c1, c2⟩ := cells3 hn
    have f0 := free3 hn 0
    have f1 := free3 hn 1
    have f2 := free3 hn 2
    clear hn
    go_wp2_with fail
    exact bodyPost_ret (ret_join _ _ _ _ _ _ rfl (put3 HA.out.1.2.2 _ _ _)) rfl ⟨_, rfl, own_nil _ _, bel3 HA.out.2 (by omega) _ _ _⟩
  · have hk2 : ¬ (l1.length : Int) - u2 < 0 := by omega
    have HV1 := Lib.hid hv1
    clear hv1
    have HV2 := Lib.hid hv2
    clear hv2
    have HA := Lib.hid (J2.start w (pObj r1 u1 (.slice s1 l1.length cap1)) (pObj false u2 (.slice s2 l2.length cap2)))
    (obtain ⟨a0, a1, a2⟩ := cells3 HA.out.1.1; obtain ⟨b0, b1, b2⟩ := cells3 HA.out.1.2.1)
    go_enter Tryd.func20, Tryd.ntmps20
    go_wp2_with fail
    ((with_reducible refine (isAbs_any _ r1 u1 l1 _ (PathV.mk (S1.out.below HA.out.bel)) X1.out).mono ?_))
    rintro e wx ⟨rfl, hb⟩
    rw [HV1.out]
    have HA2 := Lib.hid (HA.out.below hb)
    clear hb HA
    clear a0 a1 a2 b0 b1 b2
    have HA := HA2
    clear HA2
    (obtain ⟨a0, a1, a2⟩ := cells3 HA.out.1.1; obtain ⟨b0, b1, b2⟩ := cells3 HA.out.1.2.1)
    go_wp2_with fail
    ((with_reducible refine (nsValid_any _ false u2 l2 _ (PathV.mk (S2.out.below HA.out.bel)) X2.out).mono ?_))
    rintro e wx ⟨rfl, hb⟩
    rw [HV2.out]
    have HA2 := Lib.hid (HA.out.below hb)
    clear hb HA
    clear a0 a1 a2 b0 b1 b2
    have HA := HA2
    clear HA2
    (obtain ⟨a0, a1, a2⟩ := cells3 HA.out.1.1; obtain ⟨b0, b1, b2⟩ := cells3 HA.out.1.2.1)
    have hn := HA.out.1.2.2
    obtain ⟨c0, c1, c2⟩ := cells3 hn
    have f0 := free3 hn 0
    have f1 := free3 hn 1
    have f2 := free3 hn 2
    clear hn
    go_wp2_with fail
    exact bodyPost_ret (ret_join _ _ _ _ _ _ rfl (put3 HA.out.1.2.2 _ _ _)) rfl ⟨_, rfl, own_nil _ _, bel3 HA.out.2 (by omega) _ _ _⟩
set_option maxRecDepth 100000 in
set_option maxHeartbeats 2000000 in
theorem join_yes (p q : Value) (r1 : Bool) (u1 u2 : Int) (l1 l2 : List (List UInt8)) (w : World) (hp : PathV w p r1 u1 l1) (hq : PathV w q false u2 l2) (hx1 : ∀ x ∈ l1, x.length ≤ 9223372036854775000) (hx2 : ∀ x ∈ l2, x.length ≤ 9223372036854775000) (hv1 : absB r1 u1 l1 = true) (hv2 : validB false u2 l2 = true) (h32 : l2.length ≤ 32) (g32 : l1.length ≤ 32) (n2 : Nat) (hu : u2 = (n2 : Int)) (h1 : n2 ≤ l1.length) (hk : l1.length - n2 + l2.length ≤ 32) : Calls Tryd.prog 20 #[p, q] w (PPost w true 0 (l1.take (l1.length - n2) ++ l2) true) := by
  obtain ⟨v1, rfl, hs1⟩ := hp
  obtain ⟨v2, rfl, hs2⟩ := hq
  have S1 := Lib.hid hs1
  have S2 := Lib.hid hs2
  have X1 := Lib.hid hx1
  have X2 := Lib.hid hx2
  clear hx1 hx2
  obtain ⟨s1, cap1, rfl, hcap1⟩ := hs1.form
  obtain ⟨s2, cap2, rfl, hcap2⟩ := hs2.form
  clear hs1 hs2
  have k1 : ¬ (l1.length : Int) - u2 < 0 := by omega
  have k2 : ¬ 32 < (l1.length : Int) - u2 + (l2.length : Int) := by omega
  have k3 : u2 ≤ (l1.length : Int) := by omega
  have k3' : 0 ≤ u2 := by omega
  have k4 : (0 : Int) ≤ (l1.length : Int) - u2 := by omega
  have k5 : (l1.length : Int) - u2 ≤ (cap1 : Int) := by have := hcap1; omega
  have k6 : ((l1.length : Int) - u2).toNat = l1.length - n2 := by omega
  have k7 : l1.length - n2 ≤ cap1 := by omega
  have HU := Lib.hid hu
  clear hu
  have HV1 := Lib.hid hv1
  clear hv1
  have HV2 := Lib.hid hv2
  clear hv2
  have HA := Lib.hid (J2.start w (pObj r1 u1 (.slice s1 l1.length cap1)) (pObj false u2 (.slice s2 l2.length cap2)))
  (obtain ⟨a0, a1, a2⟩ := cells3 HA.out.1.1; obtain ⟨b0, b1, b2⟩ := cells3 HA.out.1.2.1)
  go_enter Tryd.func20, Tryd.ntmps20
  go_wp2_with fail
  ((with_reducible refine (isAbs_any _ r1 u1 l1 _ (PathV.mk (S1.out.below HA.out.bel)) X1.out).mono ?_))
  rintro e wx ⟨rfl, hb⟩
  rw [HV1.out]
  have HA2 := Lib.hid (HA.out.below hb)
  clear hb HA
  clear a0 a1 a2 b0 b1 b2
  have HA := HA2
  clear HA2
  (obtain ⟨a0, a1, a2⟩ := cells3 HA.out.1.1; obtain ⟨b0, b1, b2⟩ := cells3 HA.out.1.2.1)
  go_wp2_with fail
  ((with_reducible refine (nsValid_any _ false u2 l2 _ (PathV.mk (S2.out.below HA.out.bel)) X2.out).mono ?_))
  rintro e wx ⟨rfl, hb⟩
  rw [HV2.out]
  have HA2 := Lib.hid (HA.out.below hb)
  clear hb HA
  clear a0 a1 a2 b0 b1 b2
  have HA := HA2
  clear HA2
  (obtain ⟨a0, a1, a2⟩ := cells3 HA.out.1.1; obtain ⟨b0, b1, b2⟩ := cells3 HA.out.1.2.1)
  have HZ : Hid (w.heap.size + 1 + 1 < wx.heap.size) := Lib.hid (lt_of_block HA.out.1.2.2)
  go_upto_region 8 with fail
  clear a0 a1 a2 b0 b1 b2
  have m1 : ∀ x, Grows wx x → x.cell? ⟨w.heap.size, 2, none⟩ = some (.slice s1 l1.length cap1) := fun x h => (cells3 (HA.out.below h).1.1).2.2
  have m2 : ∀ x, Grows wx x → x.cell? ⟨w.heap.size + 1, 2, none⟩ = some (.slice s2 l2.length cap2) := fun x h => (cells3 (HA.out.below h).1.2.1).2.2
  refine wp_region_plan (Grows wx) 9 [.reads [0, 1, 2, 3, 4, 5], .act 6, .act 7, .reads [8], .act 9, .act 10] (by kernel_rfl) (by kernel_rfl) (by kernel_rfl) (by kernel_rfl) (by kernel_rfl) (fun _ _ d _ _ h => by cases d <;> exact h) (Grows.self _) ?_
  refine wpPlan_reads ?_
  simp only [pickOps, List.drop_succ_cons, List.drop_zero, List.take_succ_cons, List.take_zero, List.cons_append, List.nil_append]
  repeat (go_big_quiet_step (first | (intro hb; rw [m1 _ hb]; exact ⟨rfl, rfl⟩) | (intro hb; rw [m2 _ hb]; exact ⟨rfl, rfl⟩)))
  refine wpQuiet_nil ?_
  clear m1 m2
  refine wpPlan_act rfl ?_
  simp only [pickOps, List.drop_succ_cons, List.drop_zero, List.take_succ_cons, List.take_zero, List.cons_append, List.nil_append]
  go_wp2_with fail
  refine ⟨fun _ => grows_ad _ _, ?_⟩
  have Q1 := Lib.hid (((S1.out.below HA.out.bel).front (l1.length - n2) (by omega)).below (grows_ad wx (.cells #[.slice s1 (l1.length - n2) cap1, .slice s2 l2.length cap2] 22)))
  have Q2 := Lib.hid ((S2.out.below HA.out.bel).below (grows_ad wx (.cells #[.slice s1 (l1.length - n2) cap1, .slice s2 l2.length cap2] 22)))
  have Q3 := Lib.hid (pair_cells wx (.slice s1 (l1.length - n2) cap1) (.slice s2 l2.length cap2) 22)
  have HL : Hid ((l1.take (l1.length - n2)).length + l2.length ≤ 1000000) := Lib.hid (by rw [List.length_take]; omega)
  refine wpPlan_act rfl ?_
  simp only [pickOps, List.drop_succ_cons, List.drop_zero, List.take_succ_cons, List.take_zero, List.cons_append, List.nil_append]
  go_wp2_with fail
  ((with_reducible refine (concat_any wx.heap.size (.slice s1 (l1.length - n2) cap1) (.slice s2 l2.length cap2) (l1.take (l1.length - n2)) l2 _ Q3.out.1 Q3.out.2 Q1.out Q2.out HL.out).mono ?_))
  rintro e wy ⟨v3, rfl, ho, hb⟩
  obtain ⟨a3, m3, c3, rfl⟩ := own_slice ho
  have HG := Lib.hid ((grows_ad wx _).trans hb)
  have HO : Hid (wy.ownsRow (w.heap.size + 1 + 1 + 1) 9 1 _ _ _) := Lib.hid (own_base ho (by have := HZ.out; simp; omega))
  have HA2 := Lib.hid (HA.out.below HG.out)
  clear hb ho HA Q1 Q2 Q3
  have HA := HA2
  clear HA2
  have hn := HA.out.1.2.2
  obtain ⟨c0, c1, c2⟩ := cells3 hn
  have f0 := free3 hn 0
  have f1 := free3 hn 1
  have f2 := free3 hn 2
  clear hn
  go_wp2_with fail
  refine ⟨fun _ => HG.out, ?_⟩
  refine wpPlan_reads ?_
  simp only [pickOps, List.drop_succ_cons, List.drop_zero, List.take_succ_cons, List.take_zero, List.cons_append, List.nil_append]
  repeat (go_big_quiet_step (fail))
  refine wpQuiet_nil ?_
  refine wpPlan_act rfl ?_
  simp only [pickOps, List.drop_succ_cons, List.drop_zero, List.take_succ_cons, List.take_zero, List.cons_append, List.nil_append]
  go_wp2_with fail
  refine ⟨fun h => absurd h (by decide), ?_⟩
  refine wpPlan_act rfl ?_
  simp only [pickOps, List.drop_succ_cons, List.drop_zero, List.take_succ_cons, List.take_zero, List.cons_append, List.nil_append]
  go_wp2_with fail
  refine ⟨fun h => absurd h (by decide), wpPlan_nil ?_⟩
  go_wp2_with fail
  exact bodyPost_ret (ret_join _ _ _ _ _ _ rfl (put3 HA.out.1.2.2 _ _ _)) rfl ⟨_, rfl, own_base (own_set3 HO.out _ _ _ _ (by omega)) (by omega), bel3 HA.out.2 (by omega) _ _ _⟩
set_option maxRecDepth 100000 in
set_option maxHeartbeats 2000000 in
theorem rjoin_no1 (p q : Value) (r1 r2 : Bool) (u1 u2 : Int) (l1 l2 : List (List UInt8)) (w : World) (hp : PathV w p r1 u1 l1) (hq : PathV w q r2 u2 l2) (hx1 : ∀ x ∈ l1, x.length ≤ 9223372036854775000) (hx2 : ∀ x ∈ l2, x.length ≤ 9223372036854775000) (hv1 : validB r1 u1 l1 = false) : Calls Tryd.prog 21 #[p, q] w (PPost w false 0 [] false) := by
  obtain ⟨v1, rfl, hs1⟩ := hp
  obtain ⟨v2, rfl, hs2⟩ := hq
  have S1 := Lib.hid hs1
  have S2 := Lib.hid hs2
  have X1 := Lib.hid hx1
  have X2 := Lib.hid hx2
  clear hx1 hx2
  obtain ⟨s1, cap1, rfl, hcap1⟩ := hs1.form
  obtain ⟨s2, cap2, rfl, hcap2⟩ := hs2.form
  clear hs1 hs2
  have HV1 := Lib.hid hv1
  clear hv1
  have HA := Lib.hid (J2.start w (pObj r1 u1 (.slice s1 l1.length cap1)) (pObj r2 u2 (.slice s2 l2.length cap2)))
  (obtain ⟨a0, a1, a2⟩ := cells3 HA.out.1.1; obtain ⟨b0, b1, b2⟩ := cells3 HA.out.1.2.1)
  go_enter Tryd.func21, Tryd.ntmps21
  go_wp2_with fail
  ((with_reducible refine (validPath_any _ r1 u1 l1 _ (PathV.mk (S1.out.below HA.out.bel)) X1.out).mono ?_))
  rintro e wx ⟨rfl, hb⟩
  rw [HV1.out]
  have HA2 := Lib.hid (HA.out.below hb)
  clear hb HA
  clear a0 a1 a2 b0 b1 b2
  have HA := HA2
  clear HA2
  (obtain ⟨a0, a1, a2⟩ := cells3 HA.out.1.1; obtain ⟨b0, b1, b2⟩ := cells3 HA.out.1.2.1)
  have hn := HA.out.1.2.2
  obtain ⟨c0, c1, c2⟩ := cells3 hn
  have f0 := free3 hn 0
  have f1 := free3 hn 1
  have f2 := free3 hn 2
  clear hn
  go_wp2_with fail
  exact bodyPost_ret (ret_rjoin _ _ _ _ _ _ rfl (put3 HA.out.1.2.2 _ _ _)) rfl ⟨_, rfl, own_nil _ _, bel3 HA.out.2 (by omega) _ _ _⟩
set_option maxRecDepth 100000 in
set_option maxHeartbeats 2000000 in
theorem rjoin_no1b (p q : Value) (r2 : Bool) (u1 u2 : Int) (l1 l2 : List (List UInt8)) (w : World) (hp : PathV w p false u1 l1) (hq : PathV w q r2 u2 l2) (hx1 : ∀ x ∈ l1, x.length ≤ 9223372036854775000) (hx2 : ∀ x ∈ l2, x.length ≤ 9223372036854775000) (hv1 : validB false u1 l1 = true) : Calls Tryd.prog 21 #[p, q] w (PPost w false 0 [] false) := by
  obtain ⟨v1, rfl, hs1⟩ := hp
  obtain ⟨v2, rfl, hs2⟩ := hq
  have S1 := Lib.hid hs1
  have S2 := Lib.hid hs2
  have X1 := Lib.hid hx1
  have X2 := Lib.hid hx2
  clear hx1 hx2
  obtain ⟨s1, cap1, rfl, hcap1⟩ := hs1.form
  obtain ⟨s2, cap2, rfl, hcap2⟩ := hs2.form
  clear hs1 hs2
  have HV1 := Lib.hid hv1
  clear hv1
  have HA := Lib.hid (J2.start w (pObj false u1 (.slice s1 l1.length cap1)) (pObj r2 u2 (.slice s2 l2.length cap2)))
  (obtain ⟨a0, a1, a2⟩ := cells3 HA.out.1.1; obtain ⟨b0, b1, b2⟩ := cells3 HA.out.1.2.1)
  go_enter Tryd.func21, Tryd.ntmps21
  go_wp2_with fail
  ((with_reducible refine (validPath_any _ false u1 l1 _ (PathV.mk (S1.out.below HA.out.bel)) X1.out).mono ?_))
  rintro e wx ⟨rfl, hb⟩
  rw [HV1.out]
  have HA2 := Lib.hid (HA.out.below hb)
  clear hb HA
  clear a0 a1 a2 b0 b1 b2
  have HA := HA2
  clear HA2
  (obtain ⟨a0, a1, a2⟩ := cells3 HA.out.1.1; obtain ⟨b0, b1, b2⟩ := cells3 HA.out.1.2.1)
  have hn := HA.out.1.2.2
  obtain ⟨c0, c1, c2⟩ := cells3 hn
  have f0 := free3 hn 0
  have f1 := free3 hn 1
  have f2 := free3 hn 2
  clear hn
  go_wp2_with fail
  exact bodyPost_ret (ret_rjoin _ _ _ _ _ _ rfl (put3 HA.out.1.2.2 _ _ _)) rfl ⟨_, rfl, own_nil _ _, bel3 HA.out.2 (by omega) _ _ _⟩
set_option maxRecDepth 100000 in
set_option maxHeartbeats 2000000 in
theorem rjoin_no2 (p q : Value) (r2 : Bool) (u1 u2 : Int) (l1 l2 : List (List UInt8)) (w : World) (hp : PathV w p true u1 l1) (hq : PathV w q r2 u2 l2) (hx1 : ∀ x ∈ l1, x.length ≤ 9223372036854775000) (hx2 : ∀ x ∈ l2, x.length ≤ 9223372036854775000) (hv1 : validB true u1 l1 = true) (hv2 : validB r2 u2 l2 = false) : Calls Tryd.prog 21 #[p, q] w (PPost w false 0 [] false) := by
  obtain ⟨v1, rfl, hs1⟩ := hp
  obtain ⟨v2, rfl, hs2⟩ := hq
  have S1 := Lib.hid hs1
  have S2 := Lib.hid hs2
  have X1 := Lib.hid hx1
  have X2 := Lib.hid hx2
  clear hx1 hx2
  obtain ⟨s1, cap1, rfl, hcap1⟩ := hs1.form
  obtain ⟨s2, cap2, rfl, hcap2⟩ := hs2.form
  clear hs1 hs2
  have HV1 := Lib.hid hv1
  clear hv1
  have HV2 := Lib.hid hv2
  clear hv2
  have HA := Lib.hid (J2.start w (pObj true u1 (.slice s1 l1.length cap1)) (pObj r2 u2 (.slice s2 l2.length cap2)))
  (obtain ⟨a0, a1, a2⟩ := cells3 HA.out.1.1; obtain ⟨b0, b1, b2⟩ := cells3 HA.out.1.2.1)
  go_enter Tryd.func21, Tryd.ntmps21
  go_wp2_with fail
  ((with_reducible refine (validPath_any _ true u1 l1 _ (PathV.mk (S1.out.below HA.out.bel)) X1.out).mono ?_))
  rintro e wx ⟨rfl, hb⟩
  rw [HV1.out]
  have HA2 := Lib.hid (HA.out.below hb)
  clear hb HA
  clear a0 a1 a2 b0 b1 b2
  have HA := HA2
  clear HA2
  (obtain ⟨a0, a1, a2⟩ := cells3 HA.out.1.1; obtain ⟨b0, b1, b2⟩ := cells3 HA.out.1.2.1)
  go_wp2_with fail
  ((with_reducible refine (validPath_any _ r2 u2 l2 _ (PathV.mk (S2.out.below HA.out.bel)) X2.out).mono ?_))
  rintro e wx ⟨rfl, hb⟩
  rw [HV2.out]
  have HA2 := Lib.hid (HA.out.below hb)
  clear hb HA
  clear a0 a1 a2 b0 b1 b2
  have HA := HA2
  clear HA2
  (obtain ⟨a0, a1, a2⟩ := cells3 HA.out.1.1; obtain ⟨b0, b1, b2⟩ := cells3 HA.out.1.2.1)
  have hn := HA.out.1.2.2
  obtain ⟨c0, c1, c2⟩ := cells3 hn
  have f0 := free3 hn 0
  have f1 := free3 hn 1
  have f2 := free3 hn 2
  clear hn
  go_wp2_with fail
  exact bodyPost_ret (ret_rjoin _ _ _ _ _ _ rfl (put3 HA.out.1.2.2 _ _ _)) rfl ⟨_, rfl, own_nil _ _, bel3 HA.out.2 (by omega) _ _ _⟩
set_option maxRecDepth 100000 in
set_option maxHeartbeats 2000000 in
theorem rjoin_root (p q : Value) (u1 u2 : Int) (l1 l2 : List (List UInt8)) (w : World) (hp : PathV w p true u1 l1) (hq : PathV w q true u2 l2) (hx1 : ∀ x ∈ l1, x.length ≤ 9223372036854775000) (hx2 : ∀ x ∈ l2, x.length ≤ 9223372036854775000) (hv1 : validB true u1 l1 = true) (hv2 : validB true u2 l2 = true) (h32 : l2.length ≤ 32) (g32 : l1.length ≤ 32) : Calls Tryd.prog 21 #[p, q] w (PPost w true 0 l2 true) := by
  obtain ⟨v1, rfl, hs1⟩ := hp
  obtain ⟨v2, rfl, hs2⟩ := hq
  have S1 := Lib.hid hs1
  have S2 := Lib.hid hs2
  have X1 := Lib.hid hx1
  have X2 := Lib.hid hx2
  clear hx1 hx2
  obtain ⟨s1, cap1, rfl, hcap1⟩ := hs1.form
  obtain ⟨s2, cap2, rfl, hcap2⟩ := hs2.form
  clear hs1 hs2
  have HV1 := Lib.hid hv1
  clear hv1
  have HV2 := Lib.hid hv2
  clear hv2
  have HA := Lib.hid (J2.start w (pObj true u1 (.slice s1 l1.length cap1)) (pObj true u2 (.slice s2 l2.length cap2)))
  (obtain ⟨a0, a1, a2⟩ := cells3 HA.out.1.1; obtain ⟨b0, b1, b2⟩ := cells3 HA.out.1.2.1)
  go_enter Tryd.func21, Tryd.ntmps21
  go_wp2_with fail
  ((with_reducible refine (validPath_any _ true u1 l1 _ (PathV.mk (S1.out.below HA.out.bel)) X1.out).mono ?_))
  rintro e wx ⟨rfl, hb⟩
  rw [HV1.out]
  have HA2 := Lib.hid (HA.out.below hb)
  clear hb HA
  clear a0 a1 a2 b0 b1 b2
  have HA := HA2
  clear HA2
  (obtain ⟨a0, a1, a2⟩ := cells3 HA.out.1.1; obtain ⟨b0, b1, b2⟩ := cells3 HA.out.1.2.1)
  go_wp2_with fail
  ((with_reducible refine (validPath_any _ true u2 l2 _ (PathV.mk (S2.out.below HA.out.bel)) X2.out).mono ?_))
  rintro e wx ⟨rfl, hb⟩
  rw [HV2.out]
  have HA2 := Lib.hid (HA.out.below hb)
  clear hb HA
  clear a0 a1 a2 b0 b1 b2
  have HA := HA2
  clear HA2
  (obtain ⟨a0, a1, a2⟩ := cells3 HA.out.1.1; obtain ⟨b0, b1, b2⟩ := cells3 HA.out.1.2.1)
  have HZ : Hid (w.heap.size + 1 + 1 < wx.heap.size) := Lib.hid (lt_of_block HA.out.1.2.2)
  have HS := Lib.hid (S2.out.below HA.out.bel)
  go_wp2_with (at_builtin; refine wpList_append_strs rfl _ _ rfl wx.heap.size (.slice none 0 0) [] rfl (own_nil _ _) (.slice s2 l2.length cap2) l2 rfl HS.out (by rw [List.length_nil]; omega) (Nat.le_refl _) ?_; intro v3 wy ho hg; obtain ⟨a3, m3, c3, rfl⟩ := own_slice ho; have HO := Lib.hid ho; have HA2 := Lib.hid (HA.out.below (below_app hg)); clear ho hg HA HS; clear a0 a1 a2 b0 b1 b2; have HA := HA2; clear HA2; have hn := HA.out.1.2.2; obtain ⟨c0, c1, c2⟩ := cells3 hn; have f0 := free3 hn 0; have f1 := free3 hn 1; have f2 := free3 hn 2; clear hn)
  exact bodyPost_ret (ret_rjoin _ _ _ _ _ _ rfl (put3 HA.out.1.2.2 _ _ _)) rfl ⟨_, rfl, own_base (own_set3 HO.out _ _ _ _ HZ.out) (by have := HZ.out; omega), bel3 HA.out.2 (by omega) _ _ _⟩
set_option maxRecDepth 100000 in
set_option maxHeartbeats 2000000 in
theorem rjoin_far (p q : Value) (u1 u2 : Int) (l1 l2 : List (List UInt8)) (w : World) (hp : PathV w p true u1 l1) (hq : PathV w q false u2 l2) (hx1 : ∀ x ∈ l1, x.length ≤ 9223372036854775000) (hx2 : ∀ x ∈ l2, x.length ≤ 9223372036854775000) (hv1 : validB true u1 l1 = true) (hv2 : validB false u2 l2 = true) (h32 : l2.length ≤ 32) (g32 : l1.length ≤ 32) (h0 : 0 ≤ u2) (h1 : u2 ≤ 32) (hk : (l1.length : Int) < u2 ∨ 32 < (l1.length : Int) - u2 + (l2.length : Int)) : Calls Tryd.prog 21 #[p, q] w (PPost w false 0 [] false) := by
  obtain ⟨v1, rfl, hs1⟩ := hp
  obtain ⟨v2, rfl, hs2⟩ := hq
  have S1 := Lib.hid hs1
  have S2 := Lib.hid hs2
  have X1 := Lib.hid hx1
  have X2 := Lib.hid hx2
  clear hx1 hx2
  obtain ⟨s1, cap1, rfl, hcap1⟩ := hs1.form
  obtain ⟨s2, cap2, rfl, hcap2⟩ := hs2.form
  clear hs1 hs2
  rcases hk with hk | hk
  · have HV1 := Lib.hid hv1
    clear hv1
    have HV2 := Lib.hid hv2
    clear hv2
    have HA := Lib.hid (J2.start w (pObj true u1 (.slice s1 l1.length cap1)) (pObj false u2 (.slice s2 l2.length cap2)))
    (obtain ⟨a0, a1, a2⟩ := cells3 HA.out.1.1; obtain ⟨b0, b1, b2⟩ := cells3 HA.out.1.2.1)
    go_enter Tryd.func21, Tryd.ntmps21
    go_wp2_with fail
    ((with_reducible refine (validPath_any _ true u1 l1 _ (PathV.mk (S1.out.below HA.out.bel)) X1.out).mono ?_))
    rintro e wx ⟨rfl, hb⟩
    rw [HV1.out]
    have HA2 := Lib.hid (HA.out.below hb)
    clear hb HA
    clear a0 a1 a2 b0 b1 b2
    have HA := HA2
    clear HA2
    (obtain ⟨a0, a1, a2⟩ := cells3 HA.out.1.1; obtain ⟨b0, b1, b2⟩ := cells3 HA.out.1.2.1)
    go_wp2_with fail
    ((with_reducible refine (validPath_any _ false u2 l2 _ (PathV.mk (S2.out.below HA.out.bel)) X2.out).mono ?_))
    rintro e wx ⟨rfl, hb⟩
    rw [HV2.out]
    have HA2 := Lib.hid (HA.out.below hb)
    clear hb HA
    clear a0 a1 a2 b0 b1 b2
    have HA := HA2
    clear HA2
    (obtain ⟨a0, a1, a2⟩ := cells3 HA.out.1.1; obtain ⟨b0, b1, b2⟩ := cells3 HA.out.1.2.1)
    have hn := HA.out.1.2.2
    obtain ⟨c0, c1, c2⟩ := cells3 hn
    have f0 := free3 hn 0
    have f1 := free3 hn 1
    have f2 := free3 hn 2
    clear hn
    go_wp2_with fail
    exact bodyPost_ret (ret_rjoin _ _ _ _ _ _ rfl (put3 HA.out.1.2.2 _ _ _)) rfl ⟨_, rfl, own_nil _ _, bel3 HA.out.2 (by omega) _ _ _⟩
  · have hk2 : ¬ (l1.length : Int) < u2 := by omega
    have HV1 := Lib.hid hv1
    clear hv1
    have HV2 := Lib.hid hv2
    clear hv2
    have HA := Lib.hid (J2.start w (pObj true u1 (.slice s1 l1.length cap1)) (pObj false u2 (.slice s2 l2.length cap2)))
    (obtain ⟨a0, a1, a2⟩ := cells3 HA.out.1.1; obtain ⟨b0, b1, b2⟩ := cells3 HA.out.1.2.1)
    go_enter Tryd.func21, Tryd.ntmps21
    go_wp2_with fail
    ((with_reducible refine (validPath_any _ true u1 l1 _ (PathV.mk (S1.out.below HA.out.bel)) X1.out).mono ?_))
    rintro e wx ⟨rfl, hb⟩
    rw [HV1.out]
    have HA2 := Lib.hid (HA.out.below hb)
    clear hb HA
    clear a0 a1 a2 b0 b1 b2
    have HA := HA2
    clear HA2
    (obtain ⟨a0, a1, a2⟩ := cells3 HA.out.1.1; obtain ⟨b0, b1, b2⟩ := cells3 HA.out.1.2.1)
    go_wp2_with fail
    ((with_reducible refine (validPath_any _ false u2 l2 _ (PathV.mk (S2.out.below HA.out.bel)) X2.out).mono ?_))
    rintro e wx ⟨rfl, hb⟩
    rw [HV2.out]
    have HA2 := Lib.hid (HA.out.below hb)
    clear hb HA
    clear a0 a1 a2 b0 b1 b2
    have HA := HA2
    clear HA2
    (obtain ⟨a0, a1, a2⟩ := cells3 HA.out.1.1; obtain ⟨b0, b1, b2⟩ := cells3 HA.out.1.2.1)
    have hn := HA.out.1.2.2
    obtain ⟨c0, c1, c2⟩ := cells3 hn
    have f0 := free3 hn 0
    have f1 := free3 hn 1
    have f2 := free3 hn 2
    clear hn
    go_wp2_with fail
    exact bodyPost_ret (ret_rjoin _ _ _ _ _ _ rfl (put3 HA.out.1.2.2 _ _ _)) rfl ⟨_, rfl, own_nil _ _, bel3 HA.out.2 (by omega) _ _ _⟩
set_option maxRecDepth 100000 in
set_option maxHeartbeats 2000000 in
theorem rjoin_yes (p q : Value) (u1 u2 : Int) (l1 l2 : List (List UInt8)) (w : World) (hp : PathV w p true u1 l1) (hq : PathV w q false u2 l2) (hx1 : ∀ x ∈ l1, x.length ≤ 9223372036854775000) (hx2 : ∀ x ∈ l2, x.length ≤ 9223372036854775000) (hv1 : validB true u1 l1 = true) (hv2 : validB false u2 l2 = true) (h32 : l2.length ≤ 32) (g32 : l1.length ≤ 32) (n2 : Nat) (hu : u2 = (n2 : Int)) (h1 : n2 ≤ l1.length) (hk : l1.length - n2 + l2.length ≤ 32) : Calls Tryd.prog 21 #[p, q] w (PPost w true 0 (l1.take (l1.length - n2) ++ l2) true) := by
  obtain ⟨v1, rfl, hs1⟩ := hp
  obtain ⟨v2, rfl, hs2⟩ := hq
  have S1 := Lib.hid hs1
  have S2 := Lib.hid hs2
  have X1 := Lib.hid hx1
  have X2 := Lib.hid hx2
  clear hx1 hx2
  obtain ⟨s1, cap1, rfl, hcap1⟩ := hs1.form
  obtain ⟨s2, cap2, rfl, hcap2⟩ := hs2.form
  clear hs1 hs2
  have k1 : ¬ (l1.length : Int) < u2 := by omega
  have k2 : ¬ 32 < (l1.length : Int) - u2 + (l2.length : Int) := by omega
  have k3 : u2 ≤ (l1.length : Int) := by omega
  have k3' : 0 ≤ u2 := by omega
  have k4 : (0 : Int) ≤ (l1.length : Int) - u2 := by omega
  have k5 : (l1.length : Int) - u2 ≤ (cap1 : Int) := by have := hcap1; omega
  have k6 : ((l1.length : Int) - u2).toNat = l1.length - n2 := by omega
  have k7 : l1.length - n2 ≤ cap1 := by omega
  have HU := Lib.hid hu
  clear hu
  have HV1 := Lib.hid hv1
  clear hv1
  have HV2 := Lib.hid hv2
  clear hv2
  have HA := Lib.hid (J2.start w (pObj true u1 (.slice s1 l1.length cap1)) (pObj false u2 (.slice s2 l2.length cap2)))
  (obtain ⟨a0, a1, a2⟩ := cells3 HA.out.1.1; obtain ⟨b0, b1, b2⟩ := cells3 HA.out.1.2.1)
  go_enter Tryd.func21, Tryd.ntmps21
  go_wp2_with fail
  ((with_reducible refine (validPath_any _ true u1 l1 _ (PathV.mk (S1.out.below HA.out.bel)) X1.out).mono ?_))
  rintro e wx ⟨rfl, hb⟩
  rw [HV1.out]
  have HA2 := Lib.hid (HA.out.below hb)
  clear hb HA
  clear a0 a1 a2 b0 b1 b2
  have HA := HA2
  clear HA2
  (obtain ⟨a0, a1, a2⟩ := cells3 HA.out.1.1; obtain ⟨b0, b1, b2⟩ := cells3 HA.out.1.2.1)
  go_wp2_with fail
  ((with_reducible refine (validPath_any _ false u2 l2 _ (PathV.mk (S2.out.below HA.out.bel)) X2.out).mono ?_))
  rintro e wx ⟨rfl, hb⟩
  rw [HV2.out]
  have HA2 := Lib.hid (HA.out.below hb)
  clear hb HA
  clear a0 a1 a2 b0 b1 b2
  have HA := HA2
  clear HA2
  (obtain ⟨a0, a1, a2⟩ := cells3 HA.out.1.1; obtain ⟨b0, b1, b2⟩ := cells3 HA.out.1.2.1)
  have HZ : Hid (w.heap.size + 1 + 1 < wx.heap.size) := Lib.hid (lt_of_block HA.out.1.2.2)
  have HL : Hid ((l1.take (l1.length - n2)).length + l2.length ≤ 1000000) := Lib.hid (by rw [List.length_take]; omega)
  have HS := Lib.hid ((S1.out.below HA.out.bel).front (l1.length - n2) (by omega))
  have HAX := HA
  go_upto_region 8 with (at_builtin; refine wpList_append_strs rfl _ _ rfl wx.heap.size (.slice none 0 0) [] rfl (own_nil _ _) (.slice s1 (l1.length - n2) cap1) (l1.take (l1.length - n2)) rfl HS.out (by rw [List.length_nil]; have := HL.out; omega) (Nat.le_refl _) ?_; intro v3 wy ho hg; obtain ⟨a3, m3, c3, rfl⟩ := own_slice ho; have HO := Lib.hid ho; have HBY := Lib.hid (below_app hg); have HA2 := Lib.hid (HA.out.below (below_app hg)); clear ho hg HA HS; clear a0 a1 a2 b0 b1 b2; have HA := HA2; clear HA2; obtain ⟨a0, a1, a2⟩ := cells3 HA.out.1.1; obtain ⟨b0, b1, b2⟩ := cells3 HA.out.1.2.1)
  have HS := Lib.hid (S2.out.below HA.out.bel)
  go_wp2_with (at_builtin; refine wpList_append_strs rfl _ _ rfl wx.heap.size _ (l1.take (l1.length - n2)) rfl HO.out (.slice s2 l2.length cap2) l2 rfl HS.out HL.out HBY.out.size ?_; intro v4 wz ho hg; obtain ⟨a4, m4, c4, rfl⟩ := own_slice ho; have HO4 := Lib.hid ho; have HB4 := Lib.hid (HBY.out.grown hg HBY.out.size (fun k h => own_row HO.out h)); clear ho hg HA HS; clear a0 a1 a2 b0 b1 b2; have HA := Lib.hid (HAX.out.below HB4.out); clear HAX; have hn := HA.out.1.2.2; obtain ⟨c0, c1, c2⟩ := cells3 hn; have f0 := free3 hn 0; have f1 := free3 hn 1; have f2 := free3 hn 2; clear hn)
  exact bodyPost_ret (ret_rjoin _ _ _ _ _ _ rfl (put3 HA.out.1.2.2 _ _ _)) rfl ⟨_, rfl, own_base (own_set3 HO4.out _ _ _ _ HZ.out) (by have := HZ.out; omega), bel3 HA.out.2 (by omega) _ _ _⟩
/-- What Join returns. -/
def joinV (r1 : Bool) (u1 : Int) (l1 : List (List UInt8)) (r2 : Bool) (u2 : Int) (l2 : List (List UInt8)) : Option (List (List UInt8)) :=
  if absB r1 u1 l1 = false then none else if validB r2 u2 l2 = false then none else if r2 = true then some l2
  else if (l1.length : Int) < u2 ∨ 32 < (l1.length : Int) - u2 + (l2.length : Int) then none else some (l1.take (l1.length - u2.toNat) ++ l2)
def JPost (w : World) (o : Option (List (List UInt8))) : Ending → World → Prop := PPost w o.isSome 0 (o.getD []) o.isSome
theorem validB_len {root : Bool} {up : Int} {l : List (List UInt8)} (h : validB root up l = true) : 0 ≤ up ∧ up ≤ 32 ∧ l.length ≤ 32 ∧ (root = true → up = 0) ∧ (∀ x ∈ l, segB x = true) ∧ (root = true ∨ 0 < up ∨ 0 < l.length) := by
  unfold validB preB at h
  simp only [Bool.and_eq_true, decide_eq_true_eq] at h
  obtain ⟨⟨h2, h3, h4, h5, h6⟩, h7⟩ := h
  exact ⟨h2, h3, by omega, h4, fun x hx => List.all_eq_true.1 h7 x hx, h6⟩
theorem join_any (p q : Value) (r1 r2 : Bool) (u1 u2 : Int) (l1 l2 : List (List UInt8)) (w : World) (hp : PathV w p r1 u1 l1) (hq : PathV w q r2 u2 l2) (hx1 : ∀ x ∈ l1, x.length ≤ 9223372036854775000) (hx2 : ∀ x ∈ l2, x.length ≤ 9223372036854775000) : Calls Tryd.prog 20 #[p, q] w (JPost w (joinV r1 u1 l1 r2 u2 l2)) := by
  unfold joinV
  cases hv1 : absB r1 u1 l1
  · exact join_no1 p q r1 r2 u1 u2 l1 l2 w hp hq hx1 hx2 hv1
  rw [if_neg (by decide)]
  have g32 := (absB_len hv1).2.2.1
  cases hv2 : validB r2 u2 l2
  · exact join_no2 p q r1 r2 u1 u2 l1 l2 w hp hq hx1 hx2 hv1 hv2
  rw [if_neg (by decide)]
  obtain ⟨b1, b2, b3, _⟩ := validB_len hv2
  cases r2
  · rw [if_neg (by decide)]
    by_cases hk : (l1.length : Int) < u2 ∨ 32 < (l1.length : Int) - u2 + (l2.length : Int)
    · rw [if_pos hk]; exact join_far p q r1 u1 u2 l1 l2 w hp hq hx1 hx2 hv1 hv2 b3 g32 b1 b2 hk
    · rw [if_neg hk]; exact join_yes p q r1 u1 u2 l1 l2 w hp hq hx1 hx2 hv1 hv2 b3 g32 u2.toNat (by omega) (by omega) (by omega)
  · rw [if_pos rfl]; exact join_root p q r1 u1 u2 l1 l2 w hp hq hx1 hx2 hv1 hv2 b3 g32
theorem rjoin_any (p q : Value) (r1 r2 : Bool) (u1 u2 : Int) (l1 l2 : List (List UInt8)) (w : World) (hp : PathV w p r1 u1 l1) (hq : PathV w q r2 u2 l2) (hx1 : ∀ x ∈ l1, x.length ≤ 9223372036854775000) (hx2 : ∀ x ∈ l2, x.length ≤ 9223372036854775000) : Calls Tryd.prog 21 #[p, q] w (JPost w (joinV r1 u1 l1 r2 u2 l2)) := by
  unfold joinV
  cases hv1 : absB r1 u1 l1
  · rw [if_pos rfl]
    cases hv : validB r1 u1 l1
    · exact rjoin_no1 p q r1 r2 u1 u2 l1 l2 w hp hq hx1 hx2 hv
    · have hr : r1 = false := by unfold absB at hv1; rw [hv] at hv1; simpa using hv1
      subst hr
      exact rjoin_no1b p q r2 u1 u2 l1 l2 w hp hq hx1 hx2 hv
  rw [if_neg (by decide)]
  have g32 := (absB_len hv1).2.2.1
  have hr : r1 = true := (absB_len hv1).1
  subst hr
  have hv : validB true u1 l1 = true := by unfold absB at hv1; simpa using hv1
  cases hv2 : validB r2 u2 l2
  · exact rjoin_no2 p q r2 u1 u2 l1 l2 w hp hq hx1 hx2 hv hv2
  rw [if_neg (by decide)]
  obtain ⟨b1, b2, b3, _⟩ := validB_len hv2
  cases r2
  · rw [if_neg (by decide)]
    by_cases hk : (l1.length : Int) < u2 ∨ 32 < (l1.length : Int) - u2 + (l2.length : Int)
    · rw [if_pos hk]; exact rjoin_far p q u1 u2 l1 l2 w hp hq hx1 hx2 hv hv2 b3 g32 b1 b2 hk
    · rw [if_neg hk]; exact rjoin_yes p q u1 u2 l1 l2 w hp hq hx1 hx2 hv hv2 b3 g32 u2.toNat (by omega) (by omega) (by omega)
  · rw [if_pos rfl]; exact rjoin_root p q u1 u2 l1 l2 w hp hq hx1 hx2 hv hv2 b3 g32
end Go.Proofs.YtkalnblbplaheaaDoor
