/- absolute: the walk. -/
import Derived.Test.YtkalnblbplaheaaDoorNsl
import Derived.Test.YtkalnblbplaheaaDoorNsm
namespace Go.Proofs.YtkalnblbplaheaaDoor
open Go.RowKit
set_option linter.unusedVariables false
set_option linter.unusedSimpArgs false
attribute [local go_sem] ByteArray.mk_append_mk bs_get bs_cut bs_end

/-- A path, its segments of the call's own, comes back. -/
def QPost (w : World) (root : Bool) (up : Int) (l : List (List UInt8)) (e : Ending) (w' : World) : Prop := ∃ v, e = .returned (.agg #[.bool root, .int .i64 up, v]) ∧ w'.ownsRow w.heap.size 9 1 v l.length (l.map strV) ∧ Below w.heap.size w w'
/-- Three blocks of the call. -/
def T3 (w wr : World) (o1 o2 o3 : Obj) : Prop := (wr.heap[w.heap.size]? = some o1 ∧ wr.heap[w.heap.size + 1]? = some o2 ∧ wr.heap[w.heap.size + 1 + 1]? = some o3) ∧ Below w.heap.size w wr
theorem T3.start (w : World) (o1 o2 o3 : Obj) : T3 w (((w.alloc o1).alloc o2).alloc o3) o1 o2 o3 := by
  refine ⟨⟨blk_alloc (blk_alloc (heap_alloc_new _ _) _) _, blk_alloc (heap_alloc2_new _ _ _) _, ?_⟩, (((Below.refl _ _).alloc (Nat.le_refl _) _).alloc (by simp) _).alloc (by simp; omega) _⟩
  have := heap_alloc_new ((w.alloc o1).alloc o2) o3
  simpa using this
theorem T3.below {w wr w2 : World} {o1 o2 o3 : Obj} (h : T3 w wr o1 o2 o3) (hb : Below wr.heap.size wr w2) : T3 w w2 o1 o2 o3 := ⟨⟨blk_below h.1.1 hb, blk_below h.1.2.1 hb, blk_below h.1.2.2 hb⟩, bel_then h.2 (Nat.le_refl _) hb⟩
theorem T3.bel {w wr : World} {o1 o2 o3 : Obj} (h : T3 w wr o1 o2 o3) : Below w.heap.size w wr := h.2
theorem T3.lt {w wr : World} {o1 o2 o3 : Obj} (h : T3 w wr o1 o2 o3) : w.heap.size + 1 + 1 + 1 ≤ wr.heap.size := lt_of_block h.1.2.2
theorem T3.grown {w wr w2 : World} {o1 o2 o3 : Obj} {row : Option Nat} (h : T3 w wr o1 o2 o3) (hg : wr.grownBy w2 row) (hr : ∀ g, row = some g → w.heap.size + 1 + 1 + 1 ≤ g) : T3 w w2 o1 o2 o3 :=
  ⟨⟨blk_grown h.1.1 hg (fun e => by have := hr _ e.symm; omega), blk_grown h.1.2.1 hg (fun e => by have := hr _ e.symm; omega), blk_grown h.1.2.2 hg (fun e => by have := hr _ e.symm; omega)⟩, h.2.grown hg h.2.size (fun k e => by have := hr _ e; omega)⟩
/-- The third block's last cell is stored. -/
theorem T3.segs {w wr : World} {o1 o2 : Obj} {root : Bool} {up : Int} {v : Value} (h : T3 w wr o1 o2 (pObj root up v)) (u : Value) : T3 w (wr.setCell ⟨w.heap.size + 1 + 1, 2, none⟩ u) o1 o2 (pObj root up u) :=
  ⟨⟨blk_other h.1.1 _ _ (by simp; omega), blk_other h.1.2.1 _ _ (by simp), (heap_setCell_same _ _ 2 _ _ u h.1.2.2).trans rfl⟩, h.2.setCell (by simp; omega) _⟩
theorem T3.up {w wr : World} {o1 o2 : Obj} {root : Bool} {up : Int} {v : Value} (h : T3 w wr o1 o2 (pObj root up v)) (u : Int) : T3 w (wr.setCell ⟨w.heap.size + 1 + 1, 1, none⟩ (.int .i64 u)) o1 o2 (pObj root u v) :=
  ⟨⟨blk_other h.1.1 _ _ (by simp; omega), blk_other h.1.2.1 _ _ (by simp), (heap_setCell_same _ _ 1 _ _ _ h.1.2.2).trans rfl⟩, h.2.setCell (by simp; omega) _⟩

/-- absolute's segments, of the first ones. -/
def absK (l : List (List UInt8)) : Nat → List (List UInt8)
  | 0 => []
  | k + 1 => absK l k ++ (if segB (segV (l.getD k [])) = true then [segV (l.getD k [])] else [])
theorem absK_len (l : List (List UInt8)) : ∀ k, (absK l k).length ≤ k
  | 0 => Nat.le_refl _
  | k + 1 => by
    have := absK_len l k
    simp only [absK, List.length_append]
    split <;> simp <;> omega
def absL (l : List (List UInt8)) : List (List UInt8) := absK l (min l.length 12)
theorem absL_len (l : List (List UInt8)) : (absL l).length ≤ 12 := by
  have := absK_len l (min l.length 12)
  unfold absL; omega
theorem absK_seg (l : List (List UInt8)) : ∀ k, ∀ x ∈ absK l k, segB x = true
  | 0 => by simp [absK]
  | k + 1 => by
    intro x hx
    rw [absK, List.mem_append] at hx
    rcases hx with hx | hx
    · exact absK_seg l k x hx
    · split at hx
      · next h => rw [List.mem_singleton.1 hx]; exact h
      · simp at hx
theorem ret_abs (tmps : Array Value) (w : World) (b : Nat) (c0 c1 c2 : Value) (h2 : tmps.getD 2 undef = .pointer (some ⟨b, 0, none⟩)) (hb : w.heap[b]? = some (.cells #[c0, c1, c2] 24 (0, 0))) :
    (results Tryd.f19 tmps).run Tryd.prog w = .ok (.agg #[c0, c1, c2]) w := by
  obtain ⟨e0, e1, e2⟩ := cells3 hb
  have h2' : tmps[2]?.getD undef = .pointer (some ⟨b, 0, none⟩) := by rw [← h2]; simp
  simp [results]
  go_simp
set_option maxRecDepth 100000 in
set_option maxHeartbeats 2000000 in
theorem absolute_any (p : Value) (root : Bool) (up : Int) (l : List (List UInt8)) (w : World) (hp : PathV w p root up l) (hx : ∀ x ∈ l, x.length ≤ 9223372036854775000) (hy : ∀ x ∈ l, (segV x).length ≤ 9223372036854775000) :
    Calls Tryd.prog 19 #[p] w (QPost w true 0 (absL l)) := by
  obtain ⟨v, rfl, hs⟩ := hp
  have S := Lib.hid hs
  have X := Lib.hid hx
  have Y := Lib.hid hy
  clear hx hy
  obtain ⟨a, cap, rfl, hcap⟩ := hs.form
  have HL : Hid (l.length ≤ 9223372036854775000) := Lib.hid (by obtain ⟨_, _, _, h, _⟩ := hs; exact h)
  have hl0 := HL.out
  clear hs
  have HA := Lib.hid (T3.start w (pObj root up (.slice a l.length cap)) (pObj false 0 (.slice none 0 0)) (pObj true 0 (.slice none 0 0)))
  go_enter Tryd.func19, Tryd.ntmps19
  go_wp2_with fail
  go_loopw [4] (fun i wr => ∃ k : Nat, i = .int .i64 k ∧ k ≤ min l.length 12 ∧ ∃ vq, Hid (T3 w wr (pObj root up (.slice a l.length cap)) (pObj false 0 (.slice none 0 0)) (pObj true 0 vq)) ∧ Hid (wr.ownsRow (w.heap.size + 1 + 1 + 1) 9 1 vq (absK l k).length ((absK l k).map strV))) (fun i _ => 12 - (intOf i).toNat)
  case atStart => exact ⟨0, rfl, by omega, _, HA, Lib.hid (own_nil _ _)⟩
  case round =>
    obtain ⟨k, rfl, hk, vq, HT, HO⟩ := hrel
    obtain ⟨q1, q2, q3, rfl⟩ := own_slice HO.out
    obtain ⟨w1, rfl⟩ : ∃ x : World, x = wr := ⟨_, rfl⟩
    clear HA
    by_cases hlt : k < min l.length 12
    · have k1 : k < l.length := by omega
      have k2 : k < 12 := by omega
      have S1 := S.out.below HT.out.bel
      obtain ⟨a', cap', hv', _, _, hc⟩ := S1
      injection hv' with e1 _ e2
      subst e1 e2
      obtain ⟨b, off, rfl, hcell⟩ := hc (by rintro rfl; simp at k1)
      have c := hcell k k1
      have HC := Lib.hid hcell
      clear hcell hc
      have HE : Hid (absK l (k + 1) = absK l k ++ (if segB (segV l[k]) = true then [segV l[k]] else [])) := Lib.hid (by rw [absK]; simp [k1])
      have HX := Lib.hid (X.out l[k] (List.getElem_mem _))
      have HY := Lib.hid (Y.out l[k] (List.getElem_mem _))
      generalize l[k] = x at *
      unfold strV at c
      have HN := Lib.hid (seg_any x w1 HX.out)
      have HAl : Hid ((absK l k).length ≤ 12) := Lib.hid (by have := absK_len l k; omega)
      obtain ⟨d0, d1, d2⟩ := cells3 HT.out.1.1
      go_wp2_with fail
      ((with_reducible refine HN.out.mono ?_))
      rintro e w2 ⟨rfl, hb⟩
      unfold strV
      generalize segV x = y at *
      have HT2 := Lib.hid (HT.out.below hb)
      have HO2 := Lib.hid (own_below HO.out hb)
      clear hb HN HT HO d0 d1 d2 c
      obtain ⟨g, hg⟩ : ∃ g, Hid (segB y = g) := ⟨_, Lib.hid rfl⟩
      rw [hg.out] at HE
      go_wp2_with fail
      ((with_reducible refine (segmentB_is y g hg w2 HY.out).mono ?_))
      rintro e w3 ⟨rfl, rfl⟩
      cases g
      · obtain ⟨d0, d1, d2⟩ := cells3 HT2.out.1.1
        go_wp2_with fail
        go_roundw
        case rel => exact ⟨k + 1, by go_num, by omega, _, HT2, Lib.hid (by rw [HE.out]; simpa using HO2.out)⟩
        case measure => simp [intOf]; omega
      · obtain ⟨d0, d1, d2⟩ := cells3 HT2.out.1.2.2
        have f2 := free3 HT2.out.1.2.2 2
        obtain ⟨kb, kn⟩ := newBox w2 (.cells #[.string ⟨y.toArray⟩] 9)
        have HO3 : Hid ((w2.alloc (.cells #[.string ⟨y.toArray⟩] 9)).ownsRow 0 9 1 (.slice (some ⟨w2.heap.size, 0, none⟩) 1 1) 1 ([y].map strV)) := Lib.hid (own_cells w2 0 (Nat.zero_le _) [y] 1 rfl (by simp))
        have HT3 := Lib.hid (HT2.out.below kb)
        have HO4 := Lib.hid (own_below HO2.out kb)
        have HSZ : Hid (w.heap.size + 1 + 1 + 1 ≤ (w2.alloc (.cells #[.string ⟨y.toArray⟩] 9)).heap.size) := Lib.hid HT3.out.lt
        clear kb kn HT2 HO2
        go_wp2_with (at_builtin; refine wpList_append_strs rfl _ _ rfl (w.heap.size + 1 + 1 + 1) _ (absK l k) rfl HO4.out (.slice (some ⟨w2.heap.size, 0, none⟩) 1 1) [y] rfl (StrsAt.of_own (l := [y]) HO3.out (by simp)) (by have := HAl.out; simp; omega) HSZ.out ?_; intro v3 w3 ho hgr; obtain ⟨r1, r2, r3, rfl⟩ := own_slice ho; have HO5 := Lib.hid ho; have HT5 := Lib.hid (HT3.out.grown hgr (fun g h => own_row HO4.out h)); clear ho hgr d0 d1 d2 f2; obtain ⟨d0, d1, d2⟩ := cells3 HT5.out.1.2.2; have f2 := free3 HT5.out.1.2.2 2)
        go_roundw
        case rel => exact ⟨k + 1, by go_num, by omega, _, Lib.hid (HT5.out.segs _), Lib.hid (by rw [HE.out]; simpa using own_setCell HO5.out ⟨w.heap.size + 1 + 1, 2, none⟩ _ (by simp))⟩
        case measure => simp [intOf]; omega
    · obtain rfl : k = min l.length 12 := by omega
      have HF : Hid (absK l (min l.length 12) = absL l) := Lib.hid rfl
      rw [HF.out] at HO
      obtain ⟨d0, d1, d2⟩ := cells3 HT.out.1.1
      obtain ⟨e0, e1, e2⟩ := cells3 HT.out.1.2.2
      have hn := HT.out.1.2.1
      obtain ⟨g0, g1, g2⟩ := cells3 hn
      have f0 := free3 hn 0
      have f1 := free3 hn 1
      have f2 := free3 hn 2
      clear hn HF
      by_cases h12 : l.length ≤ 12
      · have e3 : min l.length 12 = l.length := by omega
        rw [e3]
        clear e3 hlt hk
        go_wp2_with fail
        exact bodyPost_ret (ret_abs _ _ _ _ _ _ rfl (put3 HT.out.1.2.1 _ _ _)) rfl ⟨_, rfl, own_base (own_set3 HO.out _ _ _ _ (by omega)) (by omega), bel3 HT.out.2 (by omega) _ _ _⟩
      · have e3 : min l.length 12 = 12 := by omega
        have h13 : (12 : Int) < (l.length : Int) := by omega
        rw [e3]
        clear e3 hlt hk
        go_wp2_with fail
        exact bodyPost_ret (ret_abs _ _ _ _ _ _ rfl (put3 HT.out.1.2.1 _ _ _)) rfl ⟨_, rfl, own_base (own_set3 HO.out _ _ _ _ (by omega)) (by omega), bel3 HT.out.2 (by omega) _ _ _⟩
end Go.Proofs.YtkalnblbplaheaaDoor
