/- The walk of GpeLevelStaysPending. -/
import Derived.Test.YtdgeocmcmcflfaaDoorLaw3
namespace Go.Proofs.YtdgeocmcmcflfaaDoor
open Go.RowKit
attribute [local go_sem] ByteArray.mk_append_mk cut_mk

theorem first_set (f : Ev → Bool) (l : List Ev) (k : Nat) (e : Ev) (h : ∀ x ∈ l, f x = false) (hk : k < l.length) : first f (l.set k e) = if f e then some k else none := by
  induction l generalizing k with
  | nil => simp at hk
  | cons a r ih =>
    have ha := h a (by simp)
    have hr : ∀ x ∈ r, f x = false := fun x hx => h x (by simp [hx])
    cases k with
    | zero =>
      rw [List.set_cons_zero, first]
      cases f e
      · have : first f r = none := by rw [first_none, word_zero]; exact hr
        simp [this]
      · simp
    | succ k =>
      rw [List.set_cons_succ, first, ha, ih k hr (by simpa using hk)]
      cases f e <;> simp
theorem rdy_new (bs : List Bool) : ∀ x ∈ bs.map newEv, rdy x = false := by
  intro x hx
  obtain ⟨b, _, rfl⟩ := List.mem_map.1 hx
  rfl
theorem bools_set {w : World} {g n k : Nat} {B : Nat} (h : w.ownsRow B 4 1 (.slice (some ⟨g, 0, none⟩) n n) n (madeCells (Value.bool false).cells (n * 1)).toList) (hk : k < n) :
    BoolsAt (w.setCell ⟨g, k, none⟩ (.bool true)) g 0 ((List.replicate n false).set k true) := by
  intro i hi
  rw [List.length_set, List.length_replicate] at hi
  have h1 := (h.stored k (.bool true)).1.cellAt i (by omega)
  rw [Nat.mul_one, show (madeCells (Value.bool false).cells n).toList = List.replicate n (.bool false) from toList_madeCells_one _ _, List.getElem?_set] at h1
  rw [Nat.zero_add, h1, List.getElem_set]
  by_cases hki : k = i
  · subst hki; simp [hk]
  · simp [hki, hi]

set_option maxRecDepth 100000 in
set_option maxHeartbeats 2000000 in
theorem law_level (v ev : Int) (active : Bool) (w : World) (hT : Tab w) (h0 : 0 < w.heap.size) :
    Calls Tryd.prog 5 #[.int .i64 v, .int .i64 ev, .bool active] w fun e w' => e = .returned (.bool true) ∧ Below w.heap.size w w' := by
  have HT := Lib.hid hT
  clear hT
  obtain ⟨i0, hi, hz0, hz1, hz2⟩ := info_parts info4
  go_enter Tryd.func5, Tryd.ntmps5
  go_wp2_with fail
  refine (mod_any v 64 _ (by omega) (by omega)).mono ?_
  rintro e w1 ⟨r, hr0, hr1, rfl, rfl⟩
  go_wp2_with fail
  refine (mod_any ev _ _ (by omega) (by omega)).mono ?_
  rintro e w1 ⟨k', hk0, hk1, rfl, rfl⟩
  obtain ⟨n, hn⟩ : ∃ n : Nat, (1 + r : Int) = n := ⟨(1 + r).toNat, by omega⟩
  obtain ⟨k, rfl⟩ := Int.eq_ofNat_of_zero_le hk0
  rw [hn] at hk1
  rw [hn]
  have hkn : k < n := by omega
  have hn1 : 1 ≤ n := by omega
  have hn2 : n ≤ 64 := by omega
  clear hn hr0 hr1 hk0 hk1
  go_wp2_with (at_make; refine wpList_make_full _ rfl _ _ 27 rfl w.heap.size 4 i0 (.bool false) 1 Tryd.underlying27 hi hz0 hz1 .i64 .i64 _ _ n rfl rfl rfl rfl (by rw [hz2]; omega) (by unfold maxLen; omega) (Nat.le_refl _) ?_; intro w1 hown hgrow; have hcell := hown.cellAt k (by omega); have hfree := hown.frozenAt k; rw [Nat.mul_one, show (madeCells (Value.bool false).cells n).toList = List.replicate n (.bool false) from toList_madeCells_one _ _, List.getElem?_replicate, if_pos hkn] at hcell; have HO := Lib.hid hown; have HG := Lib.hid hgrow; clear hown hgrow)
  have hB1 : Below w.heap.size w w1 := (Below.refl _ _).grown HG.out (Nat.le_refl _) (fun _ h => by cases h)
  have hlt1 : w.heap.size < w1.heap.size := own_lt HO.out
  have HBS : Hid (BoolsAt (w1.setCell ⟨w.heap.size, k, none⟩ (.bool true)) w.heap.size 0 ((List.replicate n false).set k true)) := Lib.hid (bools_set HO.out hkn)
  have HB1 : Hid (Below w.heap.size w (w1.setCell ⟨w.heap.size, k, none⟩ (.bool true))) := Lib.hid (hB1.setCell (Nat.le_refl _) _)
  have hsz2 : (w1.setCell ⟨w.heap.size, k, none⟩ (.bool true)).heap.size = w1.heap.size := by simp
  have hpos : w.heap.size < (w1.setCell ⟨w.heap.size, k, none⟩ (.bool true)).heap.size := by rw [hsz2]; exact hlt1
  clear hB1 HO HG hcell hfree hsz2 hlt1 i0 hi hz0 hz1 hz2
  generalize w1.setCell ⟨w.heap.size, k, none⟩ (.bool true) = w2 at *
  have hlen : ((List.replicate n false).set k true).length = n := by simp
  refine (Calls.mono (by
    have h := new_yes w.heap.size 0 ((List.replicate n false).set k true) n w2 HBS.out hpos (by omega) (by omega)
    rw [hlen] at h
    exact h) ?_)
  rintro e w3 ⟨rfl, hg3, hb3⟩
  have hl0 : (((List.replicate n false).set k true).map newEv)[k]? = some (newEv true) := by
    rw [List.getElem?_map, List.getElem?_set]; simp [hkn]
  have HR0 := Lib.hid (rdy_new ((List.replicate n false).set k true))
  have hll : (((List.replicate n false).set k true).map newEv).length = n := by simp
  generalize ((List.replicate n false).set k true).map newEv = l at *
  have HL := Lib.hid hl0
  have HG3 := Lib.hid hg3
  have hkl : k < l.length := by omega
  have hbel3 := HB1.out.trans (hb3.mono HB1.out.size)
  have HB3 := Lib.hid hbel3
  have hBlt : w2.heap.size < w3.heap.size := hg3.lt
  have hpos0 : 0 < w2.heap.size := by omega
  have HT3 : Hid (Tab w3) := Lib.hid (HT.out.below h0 hbel3)
  have hbase : w.heap.size ≤ w2.heap.size := by omega
  generalize w2.heap.size = B at *
  clear hl0 hg3 hb3 HBS HB1 hlen hbel3 hll
  go_wp2_with fail
  refine (awake_any _ HT3.out (by omega)).mono ?_
  rintro e w4 ⟨rfl, hb4⟩
  have HG4 : Hid (GpeAt w4 B l) := Lib.hid ⟨(hb4.block B hBlt).trans HG3.out.1, HG3.out.2⟩
  have HT4 : Hid (Tab w4) := Lib.hid (HT3.out.below (by omega) hb4)
  have HB4 : Hid (Below w.heap.size w w4) := Lib.hid (HB3.out.trans (hb4.mono HB3.out.size))
  have hBlt4 : B < w4.heap.size := by have := hb4.size; omega
  clear hb4 HG3 HT3 HB3 hBlt
  go_wp2_with fail
  refine (enable_yes B k l (newEv true) true _ HG4.out HL.out).mono ?_
  rintro e w5 ⟨rfl, hg5, hr5⟩
  have HG5 := Lib.hid hg5
  have HR5 := Lib.hid hr5
  clear hg5 hr5
  go_wp2_with fail
  refine (set_yes B k _ ⟨true, false, false, true, false, false⟩ true _ HG5.out (get_set HL.out)).mono ?_
  rintro e w6 ⟨rfl, hg6, hr6⟩
  rw [List.set_set] at hg6
  have HG6 : Hid (GpeAt w6 B (l.set k ⟨true, true, true, true, false, false⟩)) := Lib.hid hg6
  have HR6 := Lib.hid (grown_trans HR5.out hr6)
  clear hg6 hr6 HG5 HR5
  go_wp2_with fail
  refine (begin_yes B k _ true true true false false true _ HG6.out (get_set HL.out) rfl).mono ?_
  rintro e w7 ⟨rfl, hg7, hr7⟩
  rw [List.set_set] at hg7
  have HG7 : Hid (GpeAt w7 B (l.set k ⟨true, true, true, true, false, true⟩)) := Lib.hid hg7
  have HR7 := Lib.hid (grown_trans HR6.out hr7)
  clear hg7 hr7 HG6 HR6
  rw [show evName true k = [95, 76, hexd (k / 16), hexd (k % 16)] from rfl]
  generalize hexd (k / 16) = x1
  generalize hexd (k % 16) = x2
  go_wp2_with fail
  refine (next_none B _ _ HG7.out (by rw [first_set rdy l k _ HR0.out hkl]; rfl)).mono ?_
  rintro e w8 ⟨rfl, n8, rfl⟩
  go_wp2_with fail
  refine (set_yes B k _ ⟨true, true, true, true, false, true⟩ active _ (HG7.out.drewN n8) (get_set HL.out)).mono ?_
  rintro e w9 ⟨rfl, hg9, hr9⟩
  rw [List.set_set] at hg9
  have HG9 : Hid (GpeAt w9 B (l.set k ⟨true, active, true, true, false, true⟩)) := Lib.hid hg9
  have HR9 := Lib.hid (grown_trans (grown_trans HR7.out (grown_drewN _ _ n8)) hr9)
  clear hg9 hr9 HG7 HR7
  go_wp2_with fail
  refine (complete_yes B k _ true active true true false _ HG9.out (get_set HL.out)).mono ?_
  rintro e w10 ⟨rfl, hg10, hr10⟩
  rw [List.set_set] at hg10
  have HG10 : Hid (GpeAt w10 B (l.set k ⟨true, active, active, true, false, false⟩)) := Lib.hid hg10
  have HR10 := Lib.hid (grown_trans HR9.out hr10)
  clear hg10 hr10 HG9 HR9
  go_wp2_with fail
  refine (status_yes B k _ ⟨true, active, active, true, false, false⟩ _ HG10.out (get_set HL.out)).mono ?_
  rintro e w11 ⟨rfl, n11, rfl⟩
  have HT11 : Hid (Tab (w10.drewN n11)) := Lib.hid ((HT4.out.grown hpos0 (by omega) HR10.out).drewN n11)
  have HF : ∀ n, Hid (Below w.heap.size w ((w10.drewN n11).drewN n)) := fun n => Lib.hid (HB4.out.grown (grown_trans (grown_trans HR10.out (grown_drewN _ _ n11)) (grown_drewN _ _ n)) HB4.out.size (fun j hj => by simp at hj; omega))
  cases active
  · go_wp2_with fail
    refine (next_none B _ _ (HG10.out.drewN n11) (by rw [first_set rdy l k _ HR0.out hkl]; rfl)).mono ?_
    rintro e w12 ⟨rfl, n12, rfl⟩
    go_wp2_with fail
    go_ret
    exact ⟨rfl, by have h := (HF n12).out; rw [World.drewN_drewN] at h; exact h⟩
  · go_wp2_with fail
    refine (next_some B k _ _ (HG10.out.drewN n11) HT11.out (by rw [first_set rdy l k _ HR0.out hkl]; rfl)).mono ?_
    rintro e w12 ⟨rfl, n12, rfl⟩
    go_wp2_with fail
    go_ret
    exact ⟨rfl, by have h := (HF n12).out; rw [World.drewN_drewN] at h; exact h⟩
end Go.Proofs.YtdgeocmcmcflfaaDoor
