/- The reference block of events: the walks of its functions, each once, over the same plain model. -/
import Derived.Test.YtdgeocmcmcflfaaDoorOps
namespace Go.Proofs.YtdgeocmcmcflfaaDoor
open Go.RowKit
attribute [local go_sem] ByteArray.mk_append_mk cut_mk

/-- An event's six cells. -/
def evC (e : Ev) : List Value := [.bool e.level, .bool e.line, .bool e.status, .bool e.enable, .bool e.wake, .bool e.busy]
def evCells : List Ev → List Value
  | [] => []
  | e :: r => evC e ++ evCells r
theorem evC_len (e : Ev) : (evC e).length = 6 := rfl
theorem evCells_len (l : List Ev) : (evCells l).length = l.length * 6 := by
  induction l with
  | nil => rfl
  | cons e r ih => rw [evCells, List.length_append, ih, evC_len, List.length_cons]; omega
theorem evCells_get (l : List Ev) (i j : Nat) (e : Ev) (h : l[i]? = some e) (hj : j < 6) : (evCells l)[i * 6 + j]? = (evC e)[j]? := by
  induction l generalizing i with
  | nil => simp at h
  | cons a r ih =>
    rw [evCells]
    cases i with
    | zero =>
      simp only [List.getElem?_cons_zero, Option.some.injEq] at h
      subst h
      rw [Nat.zero_mul, Nat.zero_add, List.getElem?_append_left (by rw [evC_len]; exact hj)]
    | succ i =>
      rw [List.getElem?_append_right (by rw [evC_len]; omega), evC_len, show (i + 1) * 6 + j - 6 = i * 6 + j by omega]
      exact ih i (by simpa using h)
theorem evCells_set (l : List Ev) (i j : Nat) (e e' : Ev) (v : Value) (h : l[i]? = some e) (hj : j < 6) (hv : (evC e).set j v = evC e') : (evCells l).set (i * 6 + j) v = evCells (l.set i e') := by
  induction l generalizing i with
  | nil => simp at h
  | cons a r ih =>
    cases i with
    | zero =>
      simp only [List.getElem?_cons_zero, Option.some.injEq] at h
      subst h
      rw [List.set_cons_zero, evCells, evCells, Nat.zero_mul, Nat.zero_add, List.set_append_left _ _ (by rw [evC_len]; exact hj), hv]
    | succ i =>
      rw [List.set_cons_succ, evCells, evCells, List.set_append_right _ _ (by rw [evC_len]; omega), evC_len, show (i + 1) * 6 + j - 6 = i * 6 + j by omega, ih i (by simpa using h)]

/-- Block b holds the reference's block whose events lie in block g. -/
def RefAt (w : World) (b g : Nat) (l : List Ev) : Prop := b ≠ g ∧ l.length ≤ 64 ∧ ∃ cap, w.heap[b]? = some (.cells #[.slice (some ⟨g, 0, none⟩) l.length cap] 58 (0, 0)) ∧ w.ownsRow 0 60 6 (.slice (some ⟨g, 0, none⟩) l.length cap) l.length (evCells l)

theorem RefAt.cell {w : World} {b g k j : Nat} {l : List Ev} {e : Ev} {v : Value} (h : RefAt w b g l) (he : l[k]? = some e) (hj : j < 6) (hv : (evC e)[j]? = some v) : w.cell? ⟨g, k * 6 + j, none⟩ = some v ∧ w.frozen? ⟨g, k * 6 + j, none⟩ = false := by
  obtain ⟨_, _, cap, hb, ho⟩ := h
  have hk : k < l.length := (List.getElem?_eq_some_iff.1 he).1
  exact ⟨by rw [ho.cellAt _ (by omega), evCells_get l k j e he hj, hv], ho.frozenAt _⟩
theorem RefAt.store {w : World} {b g k j : Nat} {l : List Ev} {e e' : Ev} {v : Value} (h : RefAt w b g l) (he : l[k]? = some e) (hj : j < 6) (hv : (evC e).set j v = evC e') : RefAt (w.setCell ⟨g, k * 6 + j, none⟩ v) b g (l.set k e') := by
  obtain ⟨h1, h2, cap, hb, ho⟩ := h
  refine ⟨h1, by rw [List.length_set]; exact h2, cap, ?_, ?_⟩
  · rw [Below.heap_setCell w ⟨g, k * 6 + j, none⟩ v b h1, List.length_set]; exact hb
  · have := (ho.stored (k * 6 + j) v).1
    rw [evCells_set l k j e e' v he hj hv] at this
    rw [List.length_set]; exact this

theorem rhas (b g : Nat) (l : List Ev) (ev : Int) (w : World) (r : Bool) (h : RefAt w b g l) (hr : r = decide (0 ≤ ev ∧ ev < (l.length : Int))) :
    Calls Tryd.prog 33 #[.pointer (some ⟨b, 0, none⟩), .int .i64 ev] w fun e w' => e = .returned (.bool r) ∧ w = w' := by
  obtain ⟨_, hl, cap, hb, ho⟩ := h
  have c0 : w.cell? ⟨b, 0, none⟩ = some (.slice (some ⟨g, 0, none⟩) l.length cap) := by rw [cell_of_row w b 0 _ _ _ hb]; rfl
  clear hb ho
  by_cases h0 : 0 ≤ ev
  · by_cases h1 : ev < (l.length : Int)
    · have hrt : r = true := by rw [hr]; simp [h0, h1]
      subst hrt
      clear hr
      go_enter Tryd.func33, Tryd.ntmps33
      go_wp2
      go_ret
      exact ⟨rfl, rfl⟩
    · have hrt : r = false := by rw [hr]; simp [h1]
      subst hrt
      clear hr
      have hd : decide (ev < (l.length : Int)) = false := by simpa using h1
      go_enter Tryd.func33, Tryd.ntmps33
      go_wp2
      go_ret
      exact ⟨rfl, rfl⟩
  · have hrt : r = false := by rw [hr]; simp [h0]
    subst hrt
    clear hr
    have hd : decide (0 ≤ ev) = false := by simpa using h0
    go_enter Tryd.func33, Tryd.ntmps33
    go_wp2
    go_ret
    exact ⟨rfl, rfl⟩
theorem rhas_no (b g : Nat) (l : List Ev) (ev : Int) (w : World) (h : RefAt w b g l) (hev : ev < 0 ∨ (l.length : Int) ≤ ev) :
    Calls Tryd.prog 33 #[.pointer (some ⟨b, 0, none⟩), .int .i64 ev] w fun e w' => e = .returned (.bool false) ∧ w = w' := rhas b g l ev w false h (by simp; omega)
theorem rhas_yes (b g k : Nat) (l : List Ev) (w : World) (h : RefAt w b g l) (hk : k < l.length) :
    Calls Tryd.prog 33 #[.pointer (some ⟨b, 0, none⟩), .int .i64 k] w fun e w' => e = .returned (.bool true) ∧ w = w' := rhas b g l k w true h (by simp; omega)

theorem renable_no (b g : Nat) (l : List Ev) (ev : Int) (on : Bool) (w : World) (h : RefAt w b g l) (hev : ev < 0 ∨ (l.length : Int) ≤ ev) :
    Calls Tryd.prog 28 #[.pointer (some ⟨b, 0, none⟩), .int .i64 ev, .bool on] w fun e w' => e = .returned (.int .i64 6) ∧ w = w' := by
  have H := Lib.hid h
  clear h
  go_enter Tryd.func28, Tryd.ntmps28
  go_wp2_with (go_at_call 33; refine (rhas_no b g l ev _ H.out hev).mono ?_; rintro e w' ⟨rfl, rfl⟩)
  go_ret
  exact ⟨rfl, rfl⟩
theorem renable_yes (b g k : Nat) (l : List Ev) (e : Ev) (on : Bool) (w : World) (h : RefAt w b g l) (he : l[k]? = some e) :
    Calls Tryd.prog 28 #[.pointer (some ⟨b, 0, none⟩), .int .i64 k, .bool on] w fun e' w' => e' = .returned (.int .i64 0) ∧ RefAt w' b g (l.set k { e with enable := on }) ∧ w.grownBy w' (some g) := by
  have hk : k < l.length := (List.getElem?_eq_some_iff.1 he).1
  obtain ⟨c3, f3⟩ := h.cell he (j := 3) (by omega) rfl
  have H := Lib.hid h
  have HE := Lib.hid he
  obtain ⟨_, hl, cap, hb, ho⟩ := h
  have c0 : w.cell? ⟨b, 0, none⟩ = some (.slice (some ⟨g, 0, none⟩) l.length cap) := by rw [cell_of_row w b 0 _ _ _ hb]; rfl
  clear hb ho he
  go_enter Tryd.func28, Tryd.ntmps28
  go_wp2_with (go_at_call 33; refine (rhas_yes b g k l _ H.out hk).mono ?_; rintro e w' ⟨rfl, rfl⟩)
  go_ret
  exact ⟨rfl, H.out.store HE.out (by omega) rfl, grown_set _ _ _ _⟩
-- MORE
theorem renableWake_no (b g : Nat) (l : List Ev) (ev : Int) (on : Bool) (w : World) (h : RefAt w b g l) (hev : ev < 0 ∨ (l.length : Int) ≤ ev) :
    Calls Tryd.prog 29 #[.pointer (some ⟨b, 0, none⟩), .int .i64 ev, .bool on] w fun e w' => e = .returned (.int .i64 6) ∧ w = w' := by
  have H := Lib.hid h
  clear h
  go_enter Tryd.func29, Tryd.ntmps29
  go_wp2_with (go_at_call 33; refine (rhas_no b g l ev _ H.out hev).mono ?_; rintro e w' ⟨rfl, rfl⟩)
  go_ret
  exact ⟨rfl, rfl⟩
theorem renableWake_yes (b g k : Nat) (l : List Ev) (e : Ev) (on : Bool) (w : World) (h : RefAt w b g l) (he : l[k]? = some e) :
    Calls Tryd.prog 29 #[.pointer (some ⟨b, 0, none⟩), .int .i64 k, .bool on] w fun e' w' => e' = .returned (.int .i64 0) ∧ RefAt w' b g (l.set k { e with wake := on }) ∧ w.grownBy w' (some g) := by
  have hk : k < l.length := (List.getElem?_eq_some_iff.1 he).1
  obtain ⟨c4, f4⟩ := h.cell he (j := 4) (by omega) rfl
  have H := Lib.hid h
  have HE := Lib.hid he
  obtain ⟨_, hl, cap, hb, ho⟩ := h
  have cb : w.cell? ⟨b, 0, none⟩ = some (.slice (some ⟨g, 0, none⟩) l.length cap) := by rw [cell_of_row w b 0 _ _ _ hb]; rfl
  clear hb ho he
  go_enter Tryd.func29, Tryd.ntmps29
  go_wp2_with (go_at_call 33; refine (rhas_yes b g k l _ H.out hk).mono ?_; rintro e w' ⟨rfl, rfl⟩)
  go_ret
  exact ⟨rfl, H.out.store HE.out (by omega) rfl, grown_set _ _ _ _⟩
theorem rset_no (b g : Nat) (l : List Ev) (ev : Int) (on : Bool) (w : World) (h : RefAt w b g l) (hev : ev < 0 ∨ (l.length : Int) ≤ ev) :
    Calls Tryd.prog 32 #[.pointer (some ⟨b, 0, none⟩), .int .i64 ev, .bool on] w fun e w' => e = .returned (.int .i64 6) ∧ w = w' := by
  have H := Lib.hid h
  clear h
  go_enter Tryd.func32, Tryd.ntmps32
  go_wp2_with (go_at_call 33; refine (rhas_no b g l ev _ H.out hev).mono ?_; rintro e w' ⟨rfl, rfl⟩)
  go_ret
  exact ⟨rfl, rfl⟩
theorem RefAt.store2 {w : World} {b g k i j : Nat} {l : List Ev} {e e' e'' : Ev} {u v : Value} (h : RefAt w b g l) (he : l[k]? = some e) (hi : i < 6) (hj : j < 6) (hu : (evC e).set i u = evC e') (hv : (evC e').set j v = evC e'') : RefAt ((w.setCell ⟨g, k * 6 + i, none⟩ u).setCell ⟨g, k * 6 + j, none⟩ v) b g (l.set k e'') := by
  have h1 := (h.store he hi hu).store (get_set he) hj hv
  rwa [List.set_set] at h1
set_option maxHeartbeats 1000000 in
theorem rset_yes (b g k : Nat) (l : List Ev) (e : Ev) (on : Bool) (w : World) (h : RefAt w b g l) (he : l[k]? = some e) :
    Calls Tryd.prog 32 #[.pointer (some ⟨b, 0, none⟩), .int .i64 k, .bool on] w fun e' w' => e' = .returned (.int .i64 0) ∧ RefAt w' b g (l.set k (setEv e on)) ∧ w.grownBy w' (some g) := by
  obtain ⟨lv, ln, st, en, wk, bz⟩ := e
  have hk : k < l.length := (List.getElem?_eq_some_iff.1 he).1
  obtain ⟨c0, f0⟩ := h.cell he (j := 0) (by omega) rfl
  obtain ⟨c1, f1⟩ := h.cell he (j := 1) (by omega) rfl
  obtain ⟨c2, f2⟩ := h.cell he (j := 2) (by omega) rfl
  obtain ⟨c5, f5⟩ := h.cell he (j := 5) (by omega) rfl
  rw [Nat.add_zero] at c0 f0
  have H := Lib.hid h
  have HE := Lib.hid he
  obtain ⟨_, hl, cap, hb, ho⟩ := h
  have cb : w.cell? ⟨b, 0, none⟩ = some (.slice (some ⟨g, 0, none⟩) l.length cap) := by rw [cell_of_row w b 0 _ _ _ hb]; rfl
  clear hb ho he
  cases on
  · have HS := Lib.hid (set_off ⟨lv, ln, st, en, wk, bz⟩)
    go_enter Tryd.func32, Tryd.ntmps32
    go_wp2_with (go_at_call 33; refine (rhas_yes b g k l _ H.out hk).mono ?_; rintro e w' ⟨rfl, rfl⟩)
    go_ret
    exact ⟨rfl, by rw [HS.out]; exact H.out.store HE.out (by omega) rfl, grown_set _ _ _ _⟩
  · cases ln
    · have HS := Lib.hid (set_rise lv st en wk bz)
      go_enter Tryd.func32, Tryd.ntmps32
      go_wp2_with (go_at_call 33; refine (rhas_yes b g k l _ H.out hk).mono ?_; rintro e w' ⟨rfl, rfl⟩)
      go_ret
      exact ⟨rfl, by rw [HS.out]; exact H.out.store2 (e' := ⟨lv, false, true, en, wk, bz⟩) HE.out (by omega) (by omega) rfl rfl, grown_trans (grown_set _ _ _ _) (grown_set _ _ _ _)⟩
    · cases lv
      · have HS := Lib.hid (set_stay st en wk bz)
        go_enter Tryd.func32, Tryd.ntmps32
        go_wp2_with (go_at_call 33; refine (rhas_yes b g k l _ H.out hk).mono ?_; rintro e w' ⟨rfl, rfl⟩)
        go_ret
        exact ⟨rfl, by rw [HS.out]; exact H.out.store HE.out (by omega) rfl, grown_set _ _ _ _⟩
      · cases bz
        · have HS := Lib.hid (set_level st en wk)
          go_enter Tryd.func32, Tryd.ntmps32
          go_wp2_with (go_at_call 33; refine (rhas_yes b g k l _ H.out hk).mono ?_; rintro e w' ⟨rfl, rfl⟩)
          go_ret
          exact ⟨rfl, by rw [HS.out]; exact H.out.store2 (e' := ⟨true, true, true, en, wk, false⟩) HE.out (by omega) (by omega) rfl rfl, grown_trans (grown_set _ _ _ _) (grown_set _ _ _ _)⟩
        · have HS := Lib.hid (set_busy st en wk)
          go_enter Tryd.func32, Tryd.ntmps32
          go_wp2_with (go_at_call 33; refine (rhas_yes b g k l _ H.out hk).mono ?_; rintro e w' ⟨rfl, rfl⟩)
          go_ret
          exact ⟨rfl, by rw [HS.out]; exact H.out.store HE.out (by omega) rfl, grown_set _ _ _ _⟩
theorem rstatus_no (b g : Nat) (l : List Ev) (ev : Int) (w : World) (h : RefAt w b g l) (hev : ev < 0 ∨ (l.length : Int) ≤ ev) :
    Calls Tryd.prog 22 #[.pointer (some ⟨b, 0, none⟩), .int .i64 ev] w fun e w' => e = .returned (.bool false) ∧ w = w' := by
  have H := Lib.hid h
  clear h
  go_enter Tryd.func22, Tryd.ntmps22
  go_wp2_with (go_at_call 33; refine (rhas_no b g l ev _ H.out hev).mono ?_; rintro e w' ⟨rfl, rfl⟩)
  go_ret
  exact ⟨rfl, rfl⟩
theorem rstatus_yes (b g k : Nat) (l : List Ev) (e : Ev) (w : World) (h : RefAt w b g l) (he : l[k]? = some e) :
    Calls Tryd.prog 22 #[.pointer (some ⟨b, 0, none⟩), .int .i64 k] w fun e' w' => e' = .returned (.bool e.status) ∧ w = w' := by
  have hk : k < l.length := (List.getElem?_eq_some_iff.1 he).1
  obtain ⟨c2, f2⟩ := h.cell he (j := 2) (by omega) rfl
  have H := Lib.hid h
  have HE := Lib.hid he
  obtain ⟨_, hl, cap, hb, ho⟩ := h
  have cb : w.cell? ⟨b, 0, none⟩ = some (.slice (some ⟨g, 0, none⟩) l.length cap) := by rw [cell_of_row w b 0 _ _ _ hb]; rfl
  clear hb ho he
  go_enter Tryd.func22, Tryd.ntmps22
  go_wp2_with (go_at_call 33; refine (rhas_yes b g k l _ H.out hk).mono ?_; rintro e w' ⟨rfl, rfl⟩)
  go_ret
  exact ⟨rfl, rfl⟩
theorem rcomplete_no (b g : Nat) (l : List Ev) (ev : Int) (w : World) (h : RefAt w b g l) (hev : ev < 0 ∨ (l.length : Int) ≤ ev) :
    Calls Tryd.prog 31 #[.pointer (some ⟨b, 0, none⟩), .int .i64 ev] w fun e w' => e = .returned (.int .i64 6) ∧ w = w' := by
  have H := Lib.hid h
  clear h
  go_enter Tryd.func31, Tryd.ntmps31
  go_wp2_with (go_at_call 33; refine (rhas_no b g l ev _ H.out hev).mono ?_; rintro e w' ⟨rfl, rfl⟩)
  go_ret
  exact ⟨rfl, rfl⟩
theorem rcomplete_state (b g k : Nat) (l : List Ev) (lv ln st en wk : Bool) (w : World) (h : RefAt w b g l) (he : l[k]? = some ⟨lv, ln, st, en, wk, false⟩) :
    Calls Tryd.prog 31 #[.pointer (some ⟨b, 0, none⟩), .int .i64 k] w fun e' w' => e' = .returned (.int .i64 9) ∧ w = w' := by
  have hk : k < l.length := (List.getElem?_eq_some_iff.1 he).1
  obtain ⟨c5, f5⟩ := h.cell he (j := 5) (by omega) rfl
  have H := Lib.hid h
  have HE := Lib.hid he
  obtain ⟨_, hl, cap, hb, ho⟩ := h
  have cb : w.cell? ⟨b, 0, none⟩ = some (.slice (some ⟨g, 0, none⟩) l.length cap) := by rw [cell_of_row w b 0 _ _ _ hb]; rfl
  clear hb ho he
  go_enter Tryd.func31, Tryd.ntmps31
  go_wp2_with (go_at_call 33; refine (rhas_yes b g k l _ H.out hk).mono ?_; rintro e w' ⟨rfl, rfl⟩)
  go_ret
  exact ⟨rfl, rfl⟩
theorem rcomplete_yes (b g k : Nat) (l : List Ev) (lv ln st en wk : Bool) (w : World) (h : RefAt w b g l) (he : l[k]? = some ⟨lv, ln, st, en, wk, true⟩) :
    Calls Tryd.prog 31 #[.pointer (some ⟨b, 0, none⟩), .int .i64 k] w fun e' w' => e' = .returned (.int .i64 0) ∧ RefAt w' b g (l.set k (completeEv ⟨lv, ln, st, en, wk, true⟩)) ∧ w.grownBy w' (some g) := by
  have hk : k < l.length := (List.getElem?_eq_some_iff.1 he).1
  obtain ⟨c0, f0⟩ := h.cell he (j := 0) (by omega) rfl
  obtain ⟨c1, f1⟩ := h.cell he (j := 1) (by omega) rfl
  obtain ⟨c2, f2⟩ := h.cell he (j := 2) (by omega) rfl
  obtain ⟨c5, f5⟩ := h.cell he (j := 5) (by omega) rfl
  rw [Nat.add_zero] at c0 f0
  have H := Lib.hid h
  have HE := Lib.hid he
  obtain ⟨_, hl, cap, hb, ho⟩ := h
  have cb : w.cell? ⟨b, 0, none⟩ = some (.slice (some ⟨g, 0, none⟩) l.length cap) := by rw [cell_of_row w b 0 _ _ _ hb]; rfl
  clear hb ho he
  cases lv
  · go_enter Tryd.func31, Tryd.ntmps31
    go_wp2_with (go_at_call 33; refine (rhas_yes b g k l _ H.out hk).mono ?_; rintro e w' ⟨rfl, rfl⟩)
    go_ret
    exact ⟨rfl, H.out.store HE.out (by omega) rfl, grown_set _ _ _ _⟩
  · go_enter Tryd.func31, Tryd.ntmps31
    go_wp2_with (go_at_call 33; refine (rhas_yes b g k l _ H.out hk).mono ?_; rintro e w' ⟨rfl, rfl⟩)
    go_ret
    exact ⟨rfl, H.out.store2 (e' := ⟨true, ln, st, en, wk, false⟩) HE.out (by omega) (by omega) rfl rfl, grown_trans (grown_set _ _ _ _) (grown_set _ _ _ _)⟩
theorem rbegin_no (b g : Nat) (l : List Ev) (ev : Int) (w : World) (h : RefAt w b g l) (hev : ev < 0 ∨ (l.length : Int) ≤ ev) :
    Calls Tryd.prog 30 #[.pointer (some ⟨b, 0, none⟩), .int .i64 ev] w fun e w' => e = .returned (.tuple #[.string ⟨#[]⟩, .int .i64 6]) ∧ w = w' := by
  have H := Lib.hid h
  clear h
  go_enter Tryd.func30, Tryd.ntmps30
  go_wp2_with (go_at_call 33; refine (rhas_no b g l ev _ H.out hev).mono ?_; rintro e w' ⟨rfl, rfl⟩)
  go_ret2
  exact ⟨rfl, rfl⟩
set_option maxHeartbeats 1000000 in
theorem rbegin_state (b g k : Nat) (l : List Ev) (lv ln st en wk bz : Bool) (w : World) (h : RefAt w b g l) (he : l[k]? = some ⟨lv, ln, st, en, wk, bz⟩) (hr : rdy ⟨lv, ln, st, en, wk, bz⟩ = false) :
    Calls Tryd.prog 30 #[.pointer (some ⟨b, 0, none⟩), .int .i64 k] w fun e' w' => e' = .returned (.tuple #[.string ⟨#[]⟩, .int .i64 9]) ∧ w = w' := by
  have hk : k < l.length := (List.getElem?_eq_some_iff.1 he).1
  obtain ⟨c2, f2⟩ := h.cell he (j := 2) (by omega) rfl
  obtain ⟨c3, f3⟩ := h.cell he (j := 3) (by omega) rfl
  obtain ⟨c5, f5⟩ := h.cell he (j := 5) (by omega) rfl
  have H := Lib.hid h
  have HE := Lib.hid he
  obtain ⟨_, hl, cap, hb, ho⟩ := h
  have cb : w.cell? ⟨b, 0, none⟩ = some (.slice (some ⟨g, 0, none⟩) l.length cap) := by rw [cell_of_row w b 0 _ _ _ hb]; rfl
  clear hb ho he
  cases st
  · clear hr
    go_enter Tryd.func30, Tryd.ntmps30
    go_wp2_with (go_at_call 33; refine (rhas_yes b g k l _ H.out hk).mono ?_; rintro e w' ⟨rfl, rfl⟩)
    go_ret2
    exact ⟨rfl, rfl⟩
  · cases en
    · clear hr
      go_enter Tryd.func30, Tryd.ntmps30
      go_wp2_with (go_at_call 33; refine (rhas_yes b g k l _ H.out hk).mono ?_; rintro e w' ⟨rfl, rfl⟩)
      go_ret2
      exact ⟨rfl, rfl⟩
    · cases bz
      · cases hr
      · clear hr
        go_enter Tryd.func30, Tryd.ntmps30
        go_wp2_with (go_at_call 33; refine (rhas_yes b g k l _ H.out hk).mono ?_; rintro e w' ⟨rfl, rfl⟩)
        go_ret2
        exact ⟨rfl, rfl⟩
theorem hex_cut (i : Nat) (h : i < 16) : List.take 1 (List.drop i ([48, 49, 50, 51, 52, 53, 54, 55, 56, 57, 65, 66, 67, 68, 69, 70] : List UInt8)) = [hexd i] := by
  have : ∀ i : Fin 16, List.take 1 (List.drop i.val ([48, 49, 50, 51, 52, 53, 54, 55, 56, 57, 65, 66, 67, 68, 69, 70] : List UInt8)) = [hexd i.val] := by decide
  exact this ⟨i, h⟩
theorem hex_cut4 (i : Nat) (h : i < 4) : List.take 1 (List.drop i ([48, 49, 50, 51] : List UInt8)) = [hexd i] := by
  have : ∀ i : Fin 4, List.take 1 (List.drop i.val ([48, 49, 50, 51] : List UInt8)) = [hexd i.val] := by decide
  exact this ⟨i, h⟩
theorem evName_cut (lv : Bool) (k : Nat) (h : k < 64) : evName lv k = 95 :: (if lv then 76 else 69) :: (List.take 1 (List.drop (k / 16) [48, 49, 50, 51]) ++ List.take 1 (List.drop (k % 16) [48, 49, 50, 51, 52, 53, 54, 55, 56, 57, 65, 66, 67, 68, 69, 70])) := by
  rw [hex_cut4 _ (by omega), hex_cut _ (by omega)]; rfl
set_option maxHeartbeats 1000000 in
theorem rbegin_yes (b g k : Nat) (l : List Ev) (lv ln st en wk bz : Bool) (w : World) (h : RefAt w b g l) (he : l[k]? = some ⟨lv, ln, st, en, wk, bz⟩) (hr : rdy ⟨lv, ln, st, en, wk, bz⟩ = true) :
    Calls Tryd.prog 30 #[.pointer (some ⟨b, 0, none⟩), .int .i64 k] w fun e' w' => e' = .returned (.tuple #[.string ⟨(evName lv k).toArray⟩, .int .i64 0]) ∧ RefAt w' b g (l.set k (beginEv ⟨lv, ln, st, en, wk, bz⟩)) ∧ w.grownBy w' (some g) := by
  have hk : k < l.length := (List.getElem?_eq_some_iff.1 he).1
  obtain ⟨c0, f0⟩ := h.cell he (j := 0) (by omega) rfl
  obtain ⟨c2, f2⟩ := h.cell he (j := 2) (by omega) rfl
  obtain ⟨c3, f3⟩ := h.cell he (j := 3) (by omega) rfl
  obtain ⟨c5, f5⟩ := h.cell he (j := 5) (by omega) rfl
  rw [Nat.add_zero] at c0 f0
  have H := Lib.hid h
  have HE := Lib.hid he
  obtain ⟨_, hl, cap, hb, ho⟩ := h
  have cb : w.cell? ⟨b, 0, none⟩ = some (.slice (some ⟨g, 0, none⟩) l.length cap) := by rw [cell_of_row w b 0 _ _ _ hb]; rfl
  clear hb ho he
  have q1 : (0 : Int) ≤ (k : Int) % 16 := by omega
  have q2 : (k : Int) % 16 < 16 := by omega
  have q3 : (0 : Int) ≤ (k : Int) / 16 := by omega
  have q4 : (k : Int) / 16 < 4 := by omega
  cases st
  · cases hr
  · cases en
    · cases hr
    · cases bz
      · clear hr
        cases lv
        · go_enter Tryd.func30, Tryd.ntmps30
          go_wp2_with (go_at_call 33; refine (rhas_yes b g k l _ H.out hk).mono ?_; rintro e w' ⟨rfl, rfl⟩)
          go_quiet (fail)
          go_wp2_with fail
          go_ret2
          exact ⟨by rw [evName_cut false k (by omega)]; rfl, H.out.store2 (e' := ⟨false, ln, true, true, wk, true⟩) HE.out (by omega) (by omega) rfl rfl, grown_trans (grown_trans (grown_set _ _ _ _) (grown_set _ _ _ _)) (grown_drewN _ _ _)⟩
        · go_enter Tryd.func30, Tryd.ntmps30
          go_wp2_with (go_at_call 33; refine (rhas_yes b g k l _ H.out hk).mono ?_; rintro e w' ⟨rfl, rfl⟩)
          go_quiet (fail)
          go_wp2_with fail
          go_ret2
          exact ⟨by rw [evName_cut true k (by omega)]; rfl, H.out.store HE.out (by omega) rfl, grown_trans (grown_set _ _ _ _) (grown_drewN _ _ _)⟩
      · cases hr
theorem first_drop (f : Ev → Bool) (l : List Ev) (k : Nat) (e : Ev) (he : l[k]? = some e) (hf : f e = false) : first f (l.drop k) = (first f (l.drop (k + 1))).map (· + 1) := by
  have hk : k < l.length := (List.getElem?_eq_some_iff.1 he).1
  have hg : l[k] = e := (List.getElem?_eq_some_iff.1 he).2
  rw [List.drop_eq_getElem_cons hk, hg, first, hf]
  rfl
theorem first_drop_yes (f : Ev → Bool) (l : List Ev) (k : Nat) (e : Ev) (he : l[k]? = some e) (hf : f e = true) : first f (l.drop k) = some 0 := by
  have hk : k < l.length := (List.getElem?_eq_some_iff.1 he).1
  have hg : l[k] = e := (List.getElem?_eq_some_iff.1 he).2
  rw [List.drop_eq_getElem_cons hk, hg, first, hf]
  rfl
/-- What Next returns. -/
def nextV (r : Option Nat) : Value := match r with
  | some k => .tuple #[.int .i64 k, .bool true]
  | none => .tuple #[.int .i64 0, .bool false]
set_option maxHeartbeats 1000000 in
theorem rnext_any (b g : Nat) (l : List Ev) (w : World) (h : RefAt w b g l) :
    Calls Tryd.prog 19 #[.pointer (some ⟨b, 0, none⟩)] w fun e' w' => e' = .returned (nextV (first rdy l)) ∧ w = w' := by
  have H := Lib.hid h
  obtain ⟨_, hl, cap, hb, ho⟩ := h
  have cb : w.cell? ⟨b, 0, none⟩ = some (.slice (some ⟨g, 0, none⟩) l.length cap) := by rw [cell_of_row w b 0 _ _ _ hb]; rfl
  clear hb ho
  go_enter Tryd.func19, Tryd.ntmps19
  go_wp2_with fail
  go_loop [4] (fun i => ∃ k : Nat, k ≤ l.length ∧ i = .int .i64 k ∧ first rdy l = (first rdy (l.drop k)).map (· + k)) (fun i => l.length - (intOf i).toNat)
  case atStart => exact ⟨0, Nat.zero_le _, rfl, by simp⟩
  case round =>
    obtain ⟨k, hk, rfl, hf⟩ := hrel
    have HF := Lib.hid hf
    clear hf
    by_cases hlt : k < l.length
    · obtain ⟨e, he⟩ : ∃ e, l[k]? = some e := ⟨_, List.getElem?_eq_getElem hlt⟩
      obtain ⟨lv, ln, st, en, wk, bz⟩ := e
      obtain ⟨c2, f2⟩ := H.out.cell he (j := 2) (by omega) rfl
      obtain ⟨c3, f3⟩ := H.out.cell he (j := 3) (by omega) rfl
      obtain ⟨c5, f5⟩ := H.out.cell he (j := 5) (by omega) rfl
      clear f2 f3 f5
      have HE := Lib.hid he
      clear he
      have hd : rdy ⟨lv, ln, st, en, wk, bz⟩ = false → first rdy l = (first rdy (l.drop (k + 1))).map (· + (k + 1)) := fun hr => by
        rw [HF.out, first_drop rdy l k _ HE.out hr]
        cases first rdy (l.drop (k + 1)) <;> simp; omega
      have HD := Lib.hid hd
      clear hd
      cases st
      · go_wp2
        go_round
        case rel => exact ⟨k + 1, by omega, by go_num, HD.out rfl⟩
        case measure => simp [intOf]; omega
      · cases en
        · go_wp2
          go_round
          case rel => exact ⟨k + 1, by omega, by go_num, HD.out rfl⟩
          case measure => simp [intOf]; omega
        · cases bz
          · have HY : Hid (first rdy l = some k) := Lib.hid (by rw [HF.out, first_drop_yes rdy l k _ HE.out rfl]; simp)
            go_wp2
            go_ret2
            exact ⟨by rw [HY.out]; rfl, rfl⟩
          · go_wp2
            go_round
            case rel => exact ⟨k + 1, by omega, by go_num, HD.out rfl⟩
            case measure => simp [intOf]; omega
    · have HN : Hid (first rdy l = none) := Lib.hid (by rw [HF.out, List.drop_eq_nil_of_le (by omega)]; rfl)
      go_wp2
      go_ret2
      exact ⟨by rw [HN.out]; rfl, rfl⟩
theorem wks_drop (l : List Ev) (k : Nat) (e : Ev) (he : l[k]? = some e) : word wks (l.drop k) = (if wks e then 1 else 0) + 2 * word wks (l.drop (k + 1)) := by
  have hk : k < l.length := (List.getElem?_eq_some_iff.1 he).1
  have hg : l[k] = e := (List.getElem?_eq_some_iff.1 he).2
  rw [List.drop_eq_getElem_cons hk, hg, word]
theorem wks_mem (l : List Ev) (k : Nat) (e : Ev) (he : l[k]? = some e) (hw : wks e = true) : word wks l ≠ 0 := by
  intro h0
  have := (word_zero wks l).1 h0 e (List.mem_of_getElem? he)
  rw [hw] at this
  cases this
end Go.Proofs.YtdgeocmcmcflfaaDoor
