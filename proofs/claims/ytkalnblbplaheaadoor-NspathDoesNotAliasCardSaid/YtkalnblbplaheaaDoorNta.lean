/- Overwrite, WithSpare, Unchanged: the walks. -/
import Derived.Test.YtkalnblbplaheaaDoorNsx
namespace Go.Proofs.YtkalnblbplaheaaDoor
open Go.RowKit
set_option linter.unusedVariables false
set_option linter.unusedSimpArgs false
attribute [local go_sem] ByteArray.mk_append_mk bs_get bs_cut bs_end

/-- A row of strings of the call's own. -/
def RowS (w : World) (B : Nat) (v : Value) (n : Nat) : Prop := ∃ l : List (List UInt8), l.length = n ∧ w.ownsRow B 9 1 v n (l.map strV)
theorem RowS.of {w : World} {B : Nat} {v : Value} {l : List (List UInt8)} (h : w.ownsRow B 9 1 v l.length (l.map strV)) : RowS w B v l.length := ⟨l, rfl, h⟩
theorem RowS.below {w w' : World} {B : Nat} {v : Value} {n : Nat} (h : RowS w B v n) (hb : Below w.heap.size w w') : RowS w' B v n := by
  obtain ⟨l, h1, h2⟩ := h
  exact ⟨l, h1, own_below h2 hb⟩
theorem RowS.base {w : World} {B B' : Nat} {v : Value} {n : Nat} (h : RowS w B v n) (hB : B' ≤ B) : RowS w B' v n := by
  obtain ⟨l, h1, h2⟩ := h
  exact ⟨l, h1, own_base h2 hB⟩
theorem RowS.set {w : World} {B : Nat} {v : Value} {n : Nat} (h : RowS w B v n) {g : Nat} {cur : Array Value} (hg : w.heap[g]? = some (.cells cur 9 (0, 0))) (k : Nat) (x : List UInt8) : RowS (w.setCell ⟨g, k, none⟩ (strV x)) B v n := by
  obtain ⟨l, h1, h2, h3⟩ := h
  rcases h3 with h0 | ⟨g', cap, cur', rfl, hB, hb, k1, k2, k3, k4⟩
  · exact ⟨l, h1, h2, .inl h0⟩
  · by_cases hgg : g' = g
    · subst hgg
      rw [hg] at hb
      injection hb with hb
      injection hb with hb _ _
      subst hb
      refine ⟨l.set k x, by simpa using h1, by simpa using h2, .inr ⟨g', cap, _, rfl, hB, heap_setCell_same w g' k cur _ (strV x) hg, k1, k2, by simpa using k3, ?_⟩⟩
      rw [Array.toList_setIfInBounds, List.take_set, k4, List.map_set]
    · exact ⟨l, h1, h2, .inr ⟨g', cap, cur', rfl, hB, blk_other hb _ _ hgg, k1, k2, k3, k4⟩⟩
/-- What lies below stays, and so do the variables that hold paths; rows stay rows. -/
def OW (B : Nat) (w w' : World) : Prop := Below B w w' ∧ (∀ (b : Nat) (cs : Array Value), w.heap[b]? = some (Obj.cells cs 24 (0, 0)) → w'.heap[b]? = some (Obj.cells cs 24 (0, 0))) ∧ ∀ B' v n, RowS w B' v n → RowS w' B' v n
theorem OW.refl (B : Nat) (w : World) : OW B w w := ⟨Below.refl _ _, fun _ _ h => h, fun _ _ _ h => h⟩
theorem OW.set {B : Nat} {w w' : World} (h : OW B w w') {g : Nat} {cur : Array Value} (hg : w'.heap[g]? = some (.cells cur 9 (0, 0))) (hB : B ≤ g) (k : Nat) (x : List UInt8) : OW B w (w'.setCell ⟨g, k, none⟩ (strV x)) := by
  refine ⟨h.1.setCell hB _, fun b cs hb => ?_, fun B' v n hr => (h.2.2 B' v n hr).set hg k x⟩
  have h2 := h.2.1 b cs hb
  refine blk_other h2 _ _ ?_
  intro e
  simp only at e
  subst e
  rw [hg] at h2
  injection h2 with h2
  injection h2 with _ h2
  exact absurd h2 (by decide)
theorem OW.below {B : Nat} {w w' : World} (h : OW B w w') : Below B w w' := h.1
set_option maxRecDepth 100000 in
set_option maxHeartbeats 2000000 in
theorem overwrite_any (v : Value) (n B : Nat) (w : World) (h : RowS w B v n) (hn : n ≤ 1000000) :
    Calls Tryd.prog 31 #[v] w fun e w' => (∃ r, e = .returned r) ∧ OW B w w' := by
  obtain ⟨l, h1, h2⟩ := h
  rcases h2.2 with ⟨rfl, rfl⟩ | ⟨g, cap, cur, rfl, hB, hb, k1, k2, k3, k4⟩
  · clear h2 h1
    go_enter Tryd.func31, Tryd.ntmps31
    go_wp2_with fail
    refine wp_loop_rounds 1 ?_
    rw [rounds_succ]
    go_wp2_with fail
    go_end0
    exact ⟨⟨_, rfl⟩, OW.refl _ _⟩
  · have HR : Hid (RowS w B (.slice (some ⟨g, 0, none⟩) n cap) n) := Lib.hid ⟨l, h1, h2⟩
    have HB := Lib.hid hB
    clear h1 h2 hb k2 k3 k4 cur hB
    go_enter Tryd.func31, Tryd.ntmps31
    go_wp2_with fail
    go_loopw [3] (fun i wr => ∃ k : Nat, i = .int .i64 k ∧ k ≤ n ∧ Hid (OW B w wr) ∧ Hid (RowS wr B (.slice (some ⟨g, 0, none⟩) n cap) n)) (fun i _ => n - (intOf i).toNat)
    case atStart => exact ⟨0, rfl, Nat.zero_le _, Lib.hid (OW.refl _ _), HR⟩
    case round =>
      obtain ⟨k, rfl, hk, HO, HR1⟩ := hrel
      obtain ⟨w1, rfl⟩ : ∃ x : World, x = wr := ⟨_, rfl⟩
      clear HR
      by_cases hlt : k < n
      · obtain ⟨l2, e1, e2, e3⟩ := HR1.out
        rcases e3 with ⟨e3, _⟩ | ⟨g2, cap2, cur2, e3, _, hb, _, _, q3, q4⟩
        · cases e3
        · injection e3 with e3 e4 e5
          injection e3 with e3
          injection e3 with e3
          subst e3 e5
          obtain ⟨xc, hcell⟩ : ∃ x, w1.cell? ⟨g, k, none⟩ = some (strV x) := by
            refine ⟨l2[k]'(by omega), ?_⟩
            rw [cell_of_row w1 g k cur2 _ _ hb]
            have h3 : (l2.map strV)[k]? = some (strV (l2[k]'(by omega))) := by simp [show k < l2.length by omega]
            rw [← q4, List.getElem?_take, if_pos (by omega)] at h3
            simpa using h3
          have f0 := free3 hb k
          have HO2 := Lib.hid (HO.out.set hb HB.out k [])
          have HR2 := Lib.hid (HR1.out.set hb k [])
          unfold strV at HO2 HR2 hcell
          clear e1 e2 e4 q3 q4 hb HO HR1
          go_wp2_with fail
          go_roundw
          case rel => exact ⟨k + 1, by go_num, by omega, HO2, HR2⟩
          case measure => simp [intOf]; omega
      · obtain rfl : k = n := by omega
        go_wp2_with fail
        go_end0
        exact ⟨⟨_, rfl⟩, HO.out⟩
theorem own_empty (w : World) : (w.alloc (.cells #[] 9)).ownsRow w.heap.size 9 1 (.slice (some ⟨w.heap.size, 0, none⟩) 0 0) ([] : List (List UInt8)).length (([] : List (List UInt8)).map strV) :=
  ⟨rfl, .inr ⟨w.heap.size, 0, #[], rfl, Nat.le_refl _, heap_alloc_new w _, Nat.le_refl _, by decide, rfl, rfl⟩⟩
theorem StrsAt.three {w : World} {b : Nat} {x : List UInt8} (h : w.heap[b]? = some (.cells #[strV x, strV x, strV x] 9 (0, 0))) : StrsAt w (.slice (some ⟨b, 0, none⟩) 3 3) [x, x, x] := by
  refine ⟨_, 3, rfl, by simp, ⟨(fun h => by cases h), by simp⟩, fun _ => ⟨b, 0, rfl, fun k hk => ?_⟩⟩
  obtain ⟨c0, c1, c2⟩ := cells3 h
  simp only [List.length_cons, List.length_nil] at hk
  match k, hk with
  | 0, _ => exact c0
  | 1, _ => exact c1
  | 2, _ => exact c2
/-- A copy with spare room that is filled. -/
def SparePost (w : World) (l : List (List UInt8)) (f : List UInt8) (e : Ending) (w' : World) : Prop :=
  ∃ g cap, e = .returned (.slice (some ⟨g, 0, none⟩) l.length (l.length + 3)) ∧ w'.ownsRow w.heap.size 9 1 (.slice (some ⟨g, 0, none⟩) (l ++ [f, f, f]).length cap) (l ++ [f, f, f]).length ((l ++ [f, f, f]).map strV) ∧ Below w.heap.size w w'
set_option maxRecDepth 100000 in
set_option maxHeartbeats 2000000 in
theorem withSpare_any (v : Value) (l : List (List UInt8)) (f : List UInt8) (w : World) (h : StrsAt w v l) (hl : l.length ≤ 100000) :
    Calls Tryd.prog 30 #[v, .string ⟨f.toArray⟩] w (SparePost w l f) := by
  obtain ⟨a, cap, rfl, hcap⟩ := h.form
  obtain ⟨k1, k2⟩ := newBox w (.cells #[] 9)
  have HS := Lib.hid (h.below k1)
  have HE := Lib.hid (own_empty w)
  have HB := Lib.hid k1
  clear h k1 k2
  obtain ⟨F, hF⟩ : ∃ F, Hid (l ++ [f, f, f] = F) := ⟨_, Lib.hid rfl⟩
  have hFl : F.length = l.length + 3 := by rw [← hF.out]; simp
  go_enter Tryd.func30, Tryd.ntmps30
  go_upto_region 2 with (at_builtin; refine wpList_append_strs rfl _ _ rfl w.heap.size _ [] rfl HE.out (.slice a l.length cap) l rfl HS.out (by simp; omega) (by simp) ?_; intro v8 w8 ho hg; obtain ⟨a8, c8, rfl⟩ := own_form ho; have HB8 : Hid (Below w.heap.size w w8) := Lib.hid (HB.out.grown hg HB.out.size (fun k h => own_row HE.out h)); have HO8 : Hid (w8.ownsRow w.heap.size 9 1 (.slice a8 l.length c8) l.length (l.map strV)) := Lib.hid (by simpa using ho); clear ho hg)
  clear HS HE HB
  obtain ⟨k1, k2⟩ := newBox w8 (.cells #[.string ⟨f.toArray⟩, .string ⟨f.toArray⟩, .string ⟨f.toArray⟩] 9)
  have HO9 := Lib.hid (own_below HO8.out k1)
  have HB9 := Lib.hid (HB8.out.trans (k1.mono HB8.out.size))
  have H3 := Lib.hid (StrsAt.three (x := f) k2)
  clear k1 k2 HO8 HB8
  go_upto_region 3 with (at_builtin; refine wpList_append_strs rfl _ _ rfl w.heap.size _ l rfl HO9.out (.slice (some ⟨w8.heap.size, 0, none⟩) 3 3) [f, f, f] rfl H3.out (by simp; omega) HB9.out.size ?_; intro v9 w9 ho hg; rw [hF.out] at ho; have HBX : Hid (Below w.heap.size w w9) := Lib.hid (HB9.out.grown hg HB9.out.size (fun k h => own_row HO9.out h)); have HOX := Lib.hid ho; clear hg ho HB9 HO9)
  rcases HOX.out.2 with ⟨_, h0⟩ | ⟨g, cg, cur, rfl, q1, q2, q3, q4, q5, q6⟩
  · omega
  · clear q2 q4 q5 q6 cur
    rw [hFl] at q3 HOX ⊢
    go_wp2_with fail
    go_ret
    exact ⟨g, cg, rfl, by rw [hF.out, hFl]; exact HOX.out, HBX.out⟩
theorem StrsAt.spare {w : World} {B g cap : Nat} {l r : List (List UInt8)} (h : w.ownsRow B 9 1 (.slice (some ⟨g, 0, none⟩) (l ++ r).length cap) (l ++ r).length ((l ++ r).map strV)) (hl : (l ++ r).length ≤ 9223372036854775000) (n c : Nat) (hn : n = l.length) (hc : n ≤ c) : StrsAt w (.slice (some ⟨g, 0, none⟩) n c) l := by
  obtain ⟨a, c', e, h1, h2, h3⟩ := StrsAt.of_own h hl
  subst hn
  refine ⟨_, c, rfl, by simp at hl; omega, ⟨(fun h => by cases h), hc⟩, fun hn => ?_⟩
  obtain ⟨b, off, rfl, hk⟩ := h3 (by simp [hn])
  refine ⟨b, off, ?_, fun k hk' => ?_⟩
  · injection e
  · rw [hk k (by simp; omega), List.getElem_append_left hk']
set_option maxRecDepth 100000 in
set_option maxHeartbeats 2000000 in
theorem unchanged_yes (vb : Value) (l : List (List UInt8)) (f : List UInt8) (B g cap : Nat) (w : World) (h : w.ownsRow B 9 1 (.slice (some ⟨g, 0, none⟩) (l ++ [f, f, f]).length cap) (l ++ [f, f, f]).length ((l ++ [f, f, f]).map strV)) (h2 : StrsAt w vb l) (hl : l.length ≤ 100000) :
    Calls Tryd.prog 32 #[.slice (some ⟨g, 0, none⟩) l.length (l.length + 3), vb, .string ⟨f.toArray⟩] w fun e w' => e = .returned (.bool true) ∧ Below w.heap.size w w' := by
  have HS := Lib.hid (StrsAt.spare h (by simp; omega) l.length (l.length + 3) rfl (by omega))
  have HF : Hid (∀ k, k < 3 → w.cell? ⟨g, l.length + k, none⟩ = some (.string ⟨f.toArray⟩)) := Lib.hid (by
    intro k hk
    obtain ⟨a, c', e, h1, h2, h3⟩ := StrsAt.of_own h (by simp; omega)
    obtain ⟨b, off, rfl, hk2⟩ := h3 (by simp)
    injection e with e _ _
    injection e with e
    injection e with e1 e2
    subst e1 e2
    have := hk2 (l.length + k) (by simp; omega)
    rw [Nat.zero_add] at this
    rw [this, List.getElem_append_right (by omega)]
    simp only [Nat.add_sub_cancel_left]
    match k, hk with
    | 0, _ => rfl
    | 1, _ => rfl
    | 2, _ => rfl)
  have H2 := Lib.hid h2
  obtain ⟨a2, c2, rfl, hc2⟩ := h2.form
  clear h h2
  go_enter Tryd.func32, Tryd.ntmps32
  go_wp2_with fail
  ((with_reducible refine (equal_yes _ _ l _ HS.out H2.out).mono ?_))
  rintro e w1 ⟨rfl, n, rfl⟩
  go_wp2_with fail
  go_loopw [8] (fun i wr => ∃ k : Nat, i = .int .i64 (l.length + k : Nat) ∧ k ≤ 3 ∧ w.drewN n = wr) (fun i _ => l.length + 3 - (intOf i).toNat)
  case atStart => exact ⟨0, by simp, by omega, rfl⟩
  case round =>
    obtain ⟨k, rfl, hk, rfl⟩ := hrel
    by_cases hlt : k < 3
    · have hc := HF.out k hlt
      go_wp2_with fail
      go_roundw
      case rel => exact ⟨k + 1, by go_num, by omega, by trivial⟩
      case measure => simp [intOf]; omega
    · obtain rfl : k = 3 := by omega
      go_wp2_with fail
      go_ret
      exact ⟨rfl, below_drewN (Below.refl _ _) _⟩
end Go.Proofs.YtkalnblbplaheaaDoor
