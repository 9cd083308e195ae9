/- The walks of package gpe: Begin, Complete, New. -/
import Derived.Test.YtdgeocmcmcflfaaDoorGpe
import Derived.RegionTactic
namespace Go.Proofs.YtdgeocmcmcflfaaDoor
open Go.RowKit

theorem conv2 (w : World) (x y : Int) : Sem.run Tryd.prog (convert 55 9 (.slice (some ⟨w.heap.size, 0, none⟩) 2 2)) (w.alloc (.cells #[.int .u8 x, .int .u8 y] 5)) = .ok (.string ⟨[UInt8.ofNat x.toNat, UInt8.ofNat y.toNat].toArray⟩) (w.alloc (.cells #[.int .u8 x, .int .u8 y] 5)) := by
  rw [run_convert_bytes_string _ 55 9 5 _ _ _ Tryd.underlying55 Tryd.underlying5 Tryd.underlying9]
  rw [run_bytesToString _ _ 2 2 [x, y] (by simp [loadCells, go_sem])]
  rfl
theorem conv2d (w : World) (B : Nat) (x y : Int) (hB : B = w.heap.size) : Sem.run Tryd.prog (convert 55 9 (.slice (some ⟨B, 0, none⟩) 2 2)) (w.alloc (.cells #[.int .u8 x, .int .u8 y] 5)).drew = .ok (.string ⟨[UInt8.ofNat x.toNat, UInt8.ofNat y.toNat].toArray⟩) (w.alloc (.cells #[.int .u8 x, .int .u8 y] 5)).drew := by
  subst hB
  rw [run_convert_bytes_string _ 55 9 5 _ _ _ Tryd.underlying55 Tryd.underlying5 Tryd.underlying9]
  rw [run_bytesToString _ _ 2 2 [x, y] (by simp [loadCells, go_sem])]
  rfl
theorem get_mk (l : List UInt8) (i : Nat) (h : i < (ByteArray.mk l.toArray).size) : (ByteArray.mk l.toArray)[i] = l[i]'(by have := h; simp only [ByteArray.size_mk', List.size_toArray] at this; exact this) := rfl
theorem cut_mk (l : List UInt8) (a b : Nat) : (ByteArray.mk l.toArray).extract a b = ⟨((l.drop a).take (b - a)).toArray⟩ := by
  apply ByteArray.ext
  rw [ByteArray.data_extract]
  simp
attribute [local go_sem] conv2 conv2d ByteArray.mk_append_mk cut_mk

/-- Begin's effect on an event. -/
def beginEv (e : Ev) : Ev := { e with busy := true, status := e.level && e.status }
/-- Complete's. -/
def completeEv (e : Ev) : Ev := { e with busy := false, status := if e.level then e.line else e.status }

theorem begin_no (b : Nat) (l : List Ev) (ev : Int) (w : World) (h : GpeAt w b l) (hev : ev < 0 ∨ (l.length : Int) ≤ ev) :
    Calls Tryd.prog 14 #[.pointer (some ⟨b, 0, none⟩), .int .i64 ev] w fun e w' => e = .returned (.tuple #[.string ⟨#[]⟩, .int .i64 6]) ∧ w = w' := by
  have c0 := h.cell 0
  simp only [blk, List.getElem?_cons_zero] at c0
  go_enter Tryd.func14, Tryd.ntmps14
  go_wp2_with (go_at_call 25; refine (mask_no b _ ev _ c0 hev).mono ?_; rintro e w' ⟨rfl, rfl⟩)
  go_ret2
  exact ⟨rfl, rfl⟩
theorem begin_state (b k : Nat) (l : List Ev) (e : Ev) (w : World) (h : GpeAt w b l) (he : l[k]? = some e) (hr : rdy e = false) :
    Calls Tryd.prog 14 #[.pointer (some ⟨b, 0, none⟩), .int .i64 k] w fun e w' => e = .returned (.tuple #[.string ⟨#[]⟩, .int .i64 9]) ∧ ∃ n, w' = w.drewN n := by
  have hk : k < l.length := (List.getElem?_eq_some_iff.1 he).1
  have hl := h.2
  have c0 := h.cell 0
  obtain ⟨m, hm⟩ : ∃ m : Int, m = (2 ^ k : Nat) := ⟨_, rfl⟩
  have HM := Lib.hid hm
  have hm0 := mask_ne HM
  simp only [blk, List.getElem?_cons_zero] at c0
  obtain ⟨x, hx⟩ : ∃ x : Int, x = (word rdy l : Nat) := ⟨_, rfl⟩
  have HX := Lib.hid hx
  clear hm hx
  obtain ⟨t, t'⟩ := and_test rdy he hl HX HM
  rw [hr, Bool.not_false] at t
  have H := Lib.hid h
  clear t' he h hr
  go_enter Tryd.func14, Tryd.ntmps14
  go_wp2_with (first | (go_at_call 25; refine (mask_yes b k _ m _ HM c0 (by omega) (by omega)).mono ?_; rintro e w' ⟨rfl, rfl⟩) | (go_at_call 26; refine (ready_any b l x _ H.out HX).mono ?_; rintro e w' ⟨rfl, n, rfl⟩))
  go_ret2
  exact ⟨rfl, _, rfl⟩

/-- The digits of event numbers in method names. -/
def hexd (i : Nat) : UInt8 := ([48, 49, 50, 51, 52, 53, 54, 55, 56, 57, 65, 66, 67, 68, 69, 70] : List UInt8).getD i 0
/-- The name of an event's method. -/
def evName (lv : Bool) (k : Nat) : List UInt8 := [95, if lv then 76 else 69, hexd (k / 16), hexd (k % 16)]
theorem hex_at (i : Nat) (h : i < (ByteArray.mk #[48, 49, 50, 51, 52, 53, 54, 55, 56, 57, 65, 66, 67, 68, 69, 70]).size) : (ByteArray.mk #[48, 49, 50, 51, 52, 53, 54, 55, 56, 57, 65, 66, 67, 68, 69, 70])[i] = hexd i := by
  rw [get_mk, hexd, List.getD_eq_getElem?_getD, List.getElem?_eq_getElem (by exact h)]
  rfl
theorem GpeAt.lt {w : World} {b : Nat} {l : List Ev} (h : GpeAt w b l) : b < w.heap.size := by
  have := h.1
  rcases Nat.lt_or_ge b w.heap.size with h' | h'
  · exact h'
  · rw [Array.getElem?_eq_none h'] at this; cases this
theorem GpeAt.alloc {w : World} {b : Nat} {l : List Ev} (h : GpeAt w b l) (o : Obj) : GpeAt (w.alloc o) b l :=
  ⟨by rw [Below.heap_alloc w o b h.lt]; exact h.1, h.2⟩
theorem grown_alloc (w : World) (b : Nat) (o : Obj) : w.grownBy (w.alloc o) (some b) :=
  ⟨rfl, rfl, rfl, by simp, fun k hk _ => Below.heap_alloc w o k hk⟩
theorem grown_drewN (w : World) (b n : Nat) : w.grownBy (w.drewN n) (some b) := ⟨rfl, rfl, rfl, Nat.le_refl _, fun _ _ _ => rfl⟩
theorem grown_drew (w : World) (b : Nat) : w.grownBy w.drew (some b) := ⟨rfl, rfl, rfl, Nat.le_refl _, fun _ _ _ => rfl⟩
theorem GpeAt.drew {w : World} {b : Nat} {l : List Ev} (h : GpeAt w b l) : GpeAt w.drew b l := h
theorem GpeAt.busy_status {w : World} {b k : Nat} {l : List Ev} {e : Ev} {x3 x6 m : Int} (h : GpeAt w b l) (he : l[k]? = some e) (HX6 : Hid (x6 = (word Ev.busy l : Nat))) (HX3 : Hid (x3 = (word Ev.status l : Nat))) (HM : Hid (m = (2 ^ k : Nat))) :
    GpeAt ((w.setCell ⟨b, 6, none⟩ (.int .u64 (bits .or .u64 x6 m))).setCell ⟨b, 3, none⟩ (.int .u64 (bits .andNot .u64 x3 m))) b (l.set k { e with busy := true, status := false }) := by
  have h1 := h.busy_on he HX6 HM
  have h2 := h1.status_off (get_set he) (x := x3) (Lib.hid (by rw [same_bit Ev.status l k e { e with busy := true } he rfl]; exact HX3.out)) HM
  rwa [List.set_set] at h2

set_option maxHeartbeats 1000000 in
theorem begin_yes (b k : Nat) (l : List Ev) (lv ln en wk bz st : Bool) (w : World) (h : GpeAt w b l) (he : l[k]? = some ⟨lv, ln, st, en, wk, bz⟩) (hr : rdy ⟨lv, ln, st, en, wk, bz⟩ = true) :
    Calls Tryd.prog 14 #[.pointer (some ⟨b, 0, none⟩), .int .i64 k] w fun e' w' => e' = .returned (.tuple #[.string ⟨(evName lv k).toArray⟩, .int .i64 0]) ∧ GpeAt w' b (l.set k (beginEv ⟨lv, ln, st, en, wk, bz⟩)) ∧ w.grownBy w' (some b) := by
  have hk : k < l.length := (List.getElem?_eq_some_iff.1 he).1
  have hl := h.2
  have c0 := h.cell 0
  have c1 := h.cell 1
  have c3 := h.cell 3
  have c6 := h.cell 6
  have f3 := h.free 3
  have f6 := h.free 6
  have H := Lib.hid h
  have HE := Lib.hid he
  obtain ⟨m, hm⟩ : ∃ m : Int, m = (2 ^ k : Nat) := ⟨_, rfl⟩
  have HM := Lib.hid hm
  have hm0 := mask_ne HM
  simp only [blk, List.getElem?_cons_zero, List.getElem?_cons_succ] at c0 c1 c3 c6
  obtain ⟨x, hx⟩ : ∃ x : Int, x = (word rdy l : Nat) := ⟨_, rfl⟩
  obtain ⟨x1, hx1⟩ : ∃ x : Int, x = (word Ev.level l : Nat) := ⟨_, rfl⟩
  obtain ⟨x3, hx3⟩ : ∃ x : Int, x = (word Ev.status l : Nat) := ⟨_, rfl⟩
  obtain ⟨x6, hx6⟩ : ∃ x : Int, x = (word Ev.busy l : Nat) := ⟨_, rfl⟩
  have HX := Lib.hid hx
  have HX1 := Lib.hid hx1
  have HX3 := Lib.hid hx3
  have HX6 := Lib.hid hx6
  rw [← hx1] at c1
  rw [← hx3] at c3
  rw [← hx6] at c6
  clear hm hx hx1 hx3 hx6
  obtain ⟨t, t'⟩ := and_test rdy HE.out hl HX HM
  obtain ⟨t1, t1'⟩ := and_test Ev.level HE.out hl HX1 HM
  rw [hr, Bool.not_true] at t
  have HR := Lib.hid hr
  clear t' t1' h he hr
  have q1 : (0 : Int) ≤ (k : Int) % 16 := by omega
  have q2 : (k : Int) % 16 < 16 := by omega
  have q3 : (0 : Int) ≤ (k : Int) / 16 := by omega
  have q4 : (k : Int) / 16 < 16 := by omega
  cases lv
  · go_enter Tryd.func14, Tryd.ntmps14
    go_wp2_with (first | (go_at_call 25; refine (mask_yes b k _ m _ HM c0 (by omega) (by omega)).mono ?_; rintro e w' ⟨rfl, rfl⟩) | (go_at_call 26; refine (ready_any b l x _ H.out HX).mono ?_; rintro e w' ⟨rfl, n, rfl⟩))
    go_region
    go_wp2
    simp only [hex_at]
    go_ret2
    refine ⟨rfl, ?_, ?_⟩
    · have h1 := (((H.out.drewN n).busy_status HE.out HX6 HX3 HM).alloc (Obj.cells #[Value.int IntKind.u8 (hexd (k / 16)).toNat, Value.int IntKind.u8 (hexd (k % 16)).toNat] 5)).drew
      exact h1
    · exact grown_trans (grown_trans (grown_trans (grown_trans (grown_drewN w b n) (grown_set _ _ _ _)) (grown_set _ _ _ _)) (grown_alloc _ _ _)) (grown_drew _ _)
  · go_enter Tryd.func14, Tryd.ntmps14
    go_wp2_with (first | (go_at_call 25; refine (mask_yes b k _ m _ HM c0 (by omega) (by omega)).mono ?_; rintro e w' ⟨rfl, rfl⟩) | (go_at_call 26; refine (ready_any b l x _ H.out HX).mono ?_; rintro e w' ⟨rfl, n, rfl⟩))
    go_region
    go_wp2
    simp only [hex_at]
    go_ret2
    refine ⟨rfl, ?_, ?_⟩
    · have h1 := (((H.out.drewN n).busy_on HE.out HX6 HM).alloc (Obj.cells #[Value.int IntKind.u8 (hexd (k / 16)).toNat, Value.int IntKind.u8 (hexd (k % 16)).toNat] 5)).drew
      exact h1
    · exact grown_trans (grown_trans (grown_trans (grown_drewN w b n) (grown_set _ _ _ _)) (grown_alloc _ _ _)) (grown_drew _ _)

theorem complete_no (b : Nat) (l : List Ev) (ev : Int) (w : World) (h : GpeAt w b l) (hev : ev < 0 ∨ (l.length : Int) ≤ ev) :
    Calls Tryd.prog 15 #[.pointer (some ⟨b, 0, none⟩), .int .i64 ev] w fun e w' => e = .returned (.int .i64 6) ∧ w = w' := by
  have c0 := h.cell 0
  simp only [blk, List.getElem?_cons_zero] at c0
  go_enter Tryd.func15, Tryd.ntmps15
  go_wp2_with (go_at_call 25; refine (mask_no b _ ev _ c0 hev).mono ?_; rintro e w' ⟨rfl, rfl⟩)
  go_ret
  exact ⟨rfl, rfl⟩
theorem GpeAt.busy_status_on {w : World} {b k : Nat} {l : List Ev} {e : Ev} {x3 x6 m : Int} (h : GpeAt w b l) (he : l[k]? = some e) (HX6 : Hid (x6 = (word Ev.busy l : Nat))) (HX3 : Hid (x3 = (word Ev.status l : Nat))) (HM : Hid (m = (2 ^ k : Nat))) :
    GpeAt ((w.setCell ⟨b, 6, none⟩ (.int .u64 (bits .andNot .u64 x6 m))).setCell ⟨b, 3, none⟩ (.int .u64 (bits .or .u64 x3 m))) b (l.set k { e with busy := false, status := true }) := by
  have h1 := h.busy_off he HX6 HM
  have h2 := h1.status_on (get_set he) (x := x3) (Lib.hid (by rw [same_bit Ev.status l k e { e with busy := false } he rfl]; exact HX3.out)) HM
  rwa [List.set_set] at h2
theorem GpeAt.busy_status_off {w : World} {b k : Nat} {l : List Ev} {e : Ev} {x3 x6 m : Int} (h : GpeAt w b l) (he : l[k]? = some e) (HX6 : Hid (x6 = (word Ev.busy l : Nat))) (HX3 : Hid (x3 = (word Ev.status l : Nat))) (HM : Hid (m = (2 ^ k : Nat))) :
    GpeAt ((w.setCell ⟨b, 6, none⟩ (.int .u64 (bits .andNot .u64 x6 m))).setCell ⟨b, 3, none⟩ (.int .u64 (bits .andNot .u64 x3 m))) b (l.set k { e with busy := false, status := false }) := by
  have h1 := h.busy_off he HX6 HM
  have h2 := h1.status_off (get_set he) (x := x3) (Lib.hid (by rw [same_bit Ev.status l k e { e with busy := false } he rfl]; exact HX3.out)) HM
  rwa [List.set_set] at h2

theorem complete_state (b k : Nat) (l : List Ev) (e : Ev) (w : World) (h : GpeAt w b l) (he : l[k]? = some e) (hr : e.busy = false) :
    Calls Tryd.prog 15 #[.pointer (some ⟨b, 0, none⟩), .int .i64 k] w fun e w' => e = .returned (.int .i64 9) ∧ w = w' := by
  have hk : k < l.length := (List.getElem?_eq_some_iff.1 he).1
  have hl := h.2
  have c0 := h.cell 0
  have c6 := h.cell 6
  obtain ⟨m, hm⟩ : ∃ m : Int, m = (2 ^ k : Nat) := ⟨_, rfl⟩
  have HM := Lib.hid hm
  have hm0 := mask_ne HM
  simp only [blk, List.getElem?_cons_zero, List.getElem?_cons_succ] at c0 c6
  obtain ⟨x6, hx6⟩ : ∃ x : Int, x = (word Ev.busy l : Nat) := ⟨_, rfl⟩
  have HX := Lib.hid hx6
  rw [← hx6] at c6
  clear hm hx6
  obtain ⟨t, t'⟩ := and_test Ev.busy he hl HX HM
  rw [hr, Bool.not_false] at t
  clear t' he h hr
  go_enter Tryd.func15, Tryd.ntmps15
  go_wp2_with (go_at_call 25; refine (mask_yes b k _ m _ HM c0 (by omega) (by omega)).mono ?_; rintro e w' ⟨rfl, rfl⟩)
  go_ret
  exact ⟨rfl, rfl⟩

set_option maxHeartbeats 1000000 in
theorem complete_yes (b k : Nat) (l : List Ev) (lv ln st en wk : Bool) (w : World) (h : GpeAt w b l) (he : l[k]? = some ⟨lv, ln, st, en, wk, true⟩) :
    Calls Tryd.prog 15 #[.pointer (some ⟨b, 0, none⟩), .int .i64 k] w fun e' w' => e' = .returned (.int .i64 0) ∧ GpeAt w' b (l.set k (completeEv ⟨lv, ln, st, en, wk, true⟩)) ∧ w.grownBy w' (some b) := by
  have hk : k < l.length := (List.getElem?_eq_some_iff.1 he).1
  have hl := h.2
  have c0 := h.cell 0
  have c1 := h.cell 1
  have c2 := h.cell 2
  have c3 := h.cell 3
  have c6 := h.cell 6
  have f3 := h.free 3
  have f6 := h.free 6
  have H := Lib.hid h
  have HE := Lib.hid he
  obtain ⟨m, hm⟩ : ∃ m : Int, m = (2 ^ k : Nat) := ⟨_, rfl⟩
  have HM := Lib.hid hm
  have hm0 := mask_ne HM
  simp only [blk, List.getElem?_cons_zero, List.getElem?_cons_succ] at c0 c1 c2 c3 c6
  obtain ⟨x1, hx1⟩ : ∃ x : Int, x = (word Ev.level l : Nat) := ⟨_, rfl⟩
  obtain ⟨x2, hx2⟩ : ∃ x : Int, x = (word Ev.line l : Nat) := ⟨_, rfl⟩
  obtain ⟨x3, hx3⟩ : ∃ x : Int, x = (word Ev.status l : Nat) := ⟨_, rfl⟩
  obtain ⟨x6, hx6⟩ : ∃ x : Int, x = (word Ev.busy l : Nat) := ⟨_, rfl⟩
  have HX1 := Lib.hid hx1
  have HX2 := Lib.hid hx2
  have HX3 := Lib.hid hx3
  have HX6 := Lib.hid hx6
  rw [← hx1] at c1
  rw [← hx2] at c2
  rw [← hx3] at c3
  rw [← hx6] at c6
  clear hm hx1 hx2 hx3 hx6
  obtain ⟨t, t'⟩ := and_test Ev.busy HE.out hl HX6 HM
  obtain ⟨t1, t1'⟩ := and_test Ev.level HE.out hl HX1 HM
  obtain ⟨t2, t2'⟩ := and_test Ev.line HE.out hl HX2 HM
  simp only [Bool.not_true] at t t1 t1' t2 t2'
  clear t' t1 t2 h he
  cases lv
  · go_enter Tryd.func15, Tryd.ntmps15
    go_wp2_with (go_at_call 25; refine (mask_yes b k _ m _ HM c0 (by omega) (by omega)).mono ?_; rintro e w' ⟨rfl, rfl⟩)
    go_ret
    exact ⟨rfl, H.out.busy_off HE.out HX6 HM, grown_set _ _ _ _⟩
  · cases ln
    · go_enter Tryd.func15, Tryd.ntmps15
      go_wp2_with (go_at_call 25; refine (mask_yes b k _ m _ HM c0 (by omega) (by omega)).mono ?_; rintro e w' ⟨rfl, rfl⟩)
      go_region_with (go_at_call 24; refine (change_off b 3 x3 m _ (by go_simp) (by go_simp)).mono ?_; rintro e w' ⟨rfl, rfl⟩)
      go_wp2
      go_ret
      exact ⟨rfl, (H.out.busy_status_off HE.out HX6 HX3 HM).drew, grown_trans (grown_trans (grown_set _ _ _ _) (grown_set _ _ _ _)) (grown_drew _ _)⟩
    · go_enter Tryd.func15, Tryd.ntmps15
      go_wp2_with (go_at_call 25; refine (mask_yes b k _ m _ HM c0 (by omega) (by omega)).mono ?_; rintro e w' ⟨rfl, rfl⟩)
      go_region_with (go_at_call 24; refine (change_on b 3 x3 m _ (by go_simp) (by go_simp)).mono ?_; rintro e w' ⟨rfl, rfl⟩)
      go_wp2
      go_ret
      exact ⟨rfl, (H.out.busy_status_on HE.out HX6 HX3 HM).drew, grown_trans (grown_trans (grown_set _ _ _ _) (grown_set _ _ _ _)) (grown_drew _ _)⟩

/-- A new event. -/
def newEv (lv : Bool) : Ev := ⟨lv, false, false, false, false, false⟩
/-- The bools of a slice. -/
def BoolsAt (w : World) (ab ao : Nat) (bs : List Bool) : Prop := ∀ (i : Nat) (h : i < bs.length), w.cell? ⟨ab, ao + i, none⟩ = some (.bool bs[i])

theorem new_no (a : Option Addr) (n cap : Nat) (w : World) (hn : n < 1 ∨ 64 < n) (hc : n ≤ 9223372036854775807) :
    Calls Tryd.prog 9 #[.slice a n cap] w fun e w' => e = .returned (.tuple #[.pointer none, .int .i64 1]) ∧ w = w' := by
  rcases hn with h | h
  · have h' : (n : Int) < 1 := by omega
    go_enter Tryd.func9, Tryd.ntmps9
    go_wp2
    go_ret2
    exact ⟨rfl, rfl⟩
  · have h' : ¬ (n : Int) < 1 := by omega
    have h2 : (64 : Int) < n := by omega
    go_enter Tryd.func9, Tryd.ntmps9
    go_wp2
    go_ret2
    exact ⟨rfl, rfl⟩

/-- The events after k rounds of New. -/
def newEvs (bs : List Bool) (k : Nat) : List Ev := (bs.take k).map newEv ++ List.replicate (bs.length - k) (newEv false)
theorem newEvs_len (bs : List Bool) (k : Nat) (h : k ≤ bs.length) : (newEvs bs k).length = bs.length := by
  simp [newEvs]; omega
theorem newEvs_at (bs : List Bool) (k : Nat) (h : k < bs.length) : (newEvs bs k)[k]? = some (newEv false) := by
  rw [newEvs, List.getElem?_append_right (by simp; omega)]
  simp only [List.length_map, List.length_take, Nat.min_eq_left (Nat.le_of_lt h), Nat.sub_self]
  rw [show bs.length - k = (bs.length - k - 1) + 1 by omega, List.replicate_succ]; rfl
theorem newEvs_step (bs : List Bool) (k : Nat) (h : k < bs.length) : (newEvs bs k).set k (newEv bs[k]) = newEvs bs (k + 1) := by
  have hl : ((bs.take k).map newEv).length = k := by simp; omega
  rw [newEvs, newEvs, show bs.length - k = (bs.length - (k + 1)) + 1 by omega, List.replicate_succ, List.set_append_right _ _ (by omega), hl, Nat.sub_self, List.set_cons_zero, List.take_succ_eq_append_getElem h, List.map_append, List.map_cons, List.map_nil, List.append_assoc]
  rfl
theorem newEvs_all (bs : List Bool) : newEvs bs bs.length = bs.map newEv := by simp [newEvs]
theorem word_new (f : Ev → Bool) (n : Nat) (h : f (newEv false) = false) : word f (List.replicate n (newEv false)) = 0 := by
  rw [word_zero]; intro e he; rw [(List.mem_replicate.1 he).2]; exact h
theorem blk_new (n : Nat) : blk (List.replicate n (newEv false)) = [.int .i64 n, .int .u64 0, .int .u64 0, .int .u64 0, .int .u64 0, .int .u64 0, .int .u64 0] := by
  simp only [blk, List.length_replicate, word_new Ev.level n rfl, word_new Ev.line n rfl, word_new Ev.status n rfl, word_new Ev.enable n rfl, word_new Ev.wake n rfl, word_new Ev.busy n rfl]
  rfl
theorem wrap_bit (k : Nat) (h : k < 64) : IntKind.u64.wrap (2 ^ k) = ((2 ^ k : Nat) : Int) := by
  have hb := bit_lt64 k h
  have e2 : (2 : Int) ^ k = ((2 ^ k : Nat) : Int) := by rw [Int.natCast_pow]; rfl
  have hz : ∀ z : Nat, z < 18446744073709551616 → IntKind.u64.wrap (z : Int) = z := fun z _ => IntWalk.u64_in _ ⟨by omega, by omega⟩
  rw [e2]; exact hz _ hb

set_option maxHeartbeats 1000000 in
theorem new_yes (ab ao : Nat) (bs : List Bool) (cap : Nat) (w : World) (ha : BoolsAt w ab ao bs) (hab : ab < w.heap.size) (h1 : 1 ≤ bs.length) (h64 : bs.length ≤ 64) :
    Calls Tryd.prog 9 #[.slice (some ⟨ab, ao, none⟩) bs.length cap] w fun e w' => e = .returned (.tuple #[.pointer (some ⟨w.heap.size, 0, none⟩), .int .i64 0]) ∧ GpeAt w' w.heap.size (bs.map newEv) ∧ Below w.heap.size w w' := by
  have h1' : ¬ (bs.length : Int) < 1 := by omega
  have h2' : ¬ (64 : Int) < bs.length := by omega
  have HA := Lib.hid ha
  clear ha
  go_enter Tryd.func9, Tryd.ntmps9
  go_wp2
  go_loopw [21] (fun i wr => ∃ k : Nat, k ≤ bs.length ∧ i = .int .i64 k ∧ GpeAt wr w.heap.size (newEvs bs k) ∧ Below w.heap.size w wr) (fun i _ => bs.length - (intOf i).toNat)
  case atStart =>
    refine ⟨0, Nat.zero_le _, rfl, ⟨?_, by rw [newEvs_len _ _ (Nat.zero_le _)]; exact h64⟩, (Below.refl _ _).alloc (Nat.le_refl _) _⟩
    rw [newEvs, List.take_zero, List.map_nil, List.nil_append, Nat.sub_zero, blk_new]
    exact heap_alloc_new w _
  case round =>
    obtain ⟨k, hk, rfl, hg, hb⟩ := hrel
    by_cases hlt : k < bs.length
    · have hcell : wr.cell? ⟨ab, ao + k, none⟩ = some (.bool bs[k]) := by rw [hb.cell hab]; exact HA.out k hlt
      have c1 := hg.cell 1
      have f1 := hg.free 1
      have H := Lib.hid hg
      have HE := Lib.hid (newEvs_at bs k hlt)
      have HS := Lib.hid (newEvs_step bs k hlt)
      obtain ⟨m, hm⟩ : ∃ m : Int, m = (2 ^ k : Nat) := ⟨_, rfl⟩
      have HM := Lib.hid hm
      have hwm : IntKind.u64.wrap (2 ^ k) = m := by rw [hm]; exact wrap_bit k (by omega)
      simp only [blk, List.getElem?_cons_zero, List.getElem?_cons_succ] at c1
      obtain ⟨x1, hx1⟩ : ∃ x : Int, x = (word Ev.level (newEvs bs k) : Nat) := ⟨_, rfl⟩
      have HX1 := Lib.hid hx1
      rw [← hx1] at c1
      clear hm hx1 hg
      generalize bs[k] = v at *
      cases v
      · go_wp2
        go_region_with (go_at_call 24; refine (change_off w.heap.size 1 x1 m _ (by go_simp) (by go_simp)).mono ?_; rintro e w' ⟨rfl, rfl⟩)
        go_wp2
        go_roundw
        case rel =>
          have h3 := H.out.level_off HE.out HX1 HM
          exact ⟨k + 1, by omega, by go_num, by rw [← HS.out]; exact h3.drew, (hb.setCell (Nat.le_refl _) _).drew⟩
        case measure => simp [intOf]; omega
      · go_wp2
        go_region_with (go_at_call 24; refine (change_on w.heap.size 1 x1 m _ (by go_simp) (by go_simp)).mono ?_; rintro e w' ⟨rfl, rfl⟩)
        go_wp2
        go_roundw
        case rel =>
          have h3 := H.out.level_on HE.out HX1 HM
          exact ⟨k + 1, by omega, by go_num, by rw [← HS.out]; exact h3.drew, (hb.setCell (Nat.le_refl _) _).drew⟩
        case measure => simp [intOf]; omega
    · obtain rfl : k = bs.length := by omega
      rw [newEvs_all] at hg
      have H := Lib.hid hg
      clear hg
      go_wp2
      go_ret2
      exact ⟨rfl, H.out, hb⟩
end Go.Proofs.YtdgeocmcmcflfaaDoor
