import Derived.Test.YtdgeocmcmcflfaaDoorAgree
/- apply: one operation on the block and on the reference block. -/
namespace Go.Proofs.YtdgeocmcmcflfaaDoor
open Go.RowKit
attribute [local go_sem] ByteArray.mk_append_mk cut_mk

/-- An operation's cells, in a block of its own. -/
def OpBox (w : World) (O : Nat) (a b : Int) (on : Bool) : Prop := w.heap[O]? = some (.cells #[.int .i64 a, .int .i64 b, .bool on] 33 (0, 0))
theorem OpBox.cell {w : World} {O : Nat} {a b : Int} {on : Bool} (h : OpBox w O a b on) : w.cell? ⟨O, 2, none⟩ = some (.bool on) := (cell_of_row w O 2 _ _ _ h).trans rfl
theorem OpBox.grown {w w' : World} {O r : Nat} {a b : Int} {on : Bool} (h : OpBox w O a b on) (hg : w.grownBy w' (some r)) (hne : O ≠ r) : OpBox w' O a b on :=
  (hg.block O (Array.getElem?_eq_some_iff.1 h).1 (by simpa using hne)).trans h
theorem Both.alloc {w : World} {D B R g : Nat} {l : List Ev} (h : Both w D B R g l) (o : Obj) : Both (w.alloc o) D B R g l := by
  obtain ⟨h1, h2, h3, h4, h5, h6⟩ := h
  obtain ⟨a1, a2, cap, a3, a4⟩ := h2
  exact ⟨⟨alloc_kept h1.1 o, h1.2⟩, ⟨a1, a2, cap, alloc_kept a3 o, a4.alloc o⟩, h3, h4, h5, h6⟩
theorem Both.lt {w : World} {D B R g : Nat} {l : List Ev} (h : Both w D B R g l) : B < w.heap.size ∧ g < w.heap.size := by
  obtain ⟨_, _, cap, _, a4⟩ := h.ref
  exact ⟨(Array.getElem?_eq_some_iff.1 h.gpe.1).1, (a4.lt g rfl).2⟩

/-- What apply does. -/
def ApplyPost (w : World) (D B R g : Nat) (l : List Ev) (e : Ending) (w' : World) : Prop := e = .returned (.bool true) ∧ ∃ l', l'.length = l.length ∧ Both w' D B R g l' ∧ Below D w w'

set_option maxHeartbeats 4000000 in
theorem apply_any (D B R g : Nat) (l : List Ev) (a b : Int) (on : Bool) (n : Nat) (w : World) (h : Both w D B R g l) (hn : n ≤ 64) (hD : D ≤ w.heap.size) :
    Calls Tryd.prog 18 #[.pointer (some ⟨B, 0, none⟩), .pointer (some ⟨R, 0, none⟩), .agg #[.int .i64 a, .int .i64 b, .bool on], .int .i64 n] w (ApplyPost w D B R g l) := by
  have H := Lib.hid h
  clear h
  go_enter Tryd.func18, Tryd.ntmps18
  go_wp2_with fail
  refine (mod_any b (n + 2) _ (by omega) (by omega)).mono ?_
  rintro e w2 ⟨r, hr0, hr1, rfl, hw2⟩
  obtain ⟨ev, rfl⟩ : ∃ ev : Int, r = ev + 1 := ⟨r - 1, by omega⟩
  obtain ⟨O, hO⟩ : ∃ O, O = w.heap.size := ⟨_, rfl⟩
  have H2 : Hid (Both w2 D B R g l) := Lib.hid (hw2 ▸ H.out.alloc _)
  have HX : Hid (OpBox w2 O a b on) := Lib.hid (by subst hw2; rw [hO]; exact heap_alloc_new w _)
  have HL : Hid (Below D w w2) := Lib.hid (hw2 ▸ (Below.refl _ _).alloc hD _)
  have c0 : w2.cell? ⟨O, 0, none⟩ = some (.int .i64 a) := (cell_of_row w2 O 0 _ _ _ HX.out).trans rfl
  have c2 : w2.cell? ⟨O, 2, none⟩ = some (.bool on) := HX.out.cell
  have HD2 : Hid (D ≤ w2.heap.size) := Lib.hid (Nat.le_trans hD HL.out.size)
  have HBO : Hid (O ≠ B ∧ O ≠ g) := Lib.hid (by have := H.out.lt; omega)
  have HW := Lib.hid hw2
  rw [← hO]
  clear hw2 hO
  go_wp2_with fail
  refine (mod_any a 8 _ (by omega) (by omega)).mono ?_
  rintro e w' ⟨r, hs0, hs1, rfl, rfl⟩
  obtain rfl | rfl | rfl | rfl | rfl | rfl | rfl | rfl : r = 0 ∨ r = 1 ∨ r = 2 ∨ r = 3 ∨ r = 4 ∨ r = 5 ∨ r = 6 ∨ r = 7 := by omega
  · obtain ⟨c, l', hA⟩ := set_agree ev on l
    have HA := Lib.hid hA
    clear hA
    go_wp2_with fail
    go_region_with (first | (go_at_call 12; refine (HA.out.gpe B _ (by exact H2.out.gpe)).mono ?_; rintro e w3 ⟨rfl, hg3, hr3a⟩; have hr3 : w2.grownBy w3 (some B) := ⟨hr3a.os, hr3a.tape, hr3a.output, hr3a.size, hr3a.block⟩; have H3 := Lib.hid hg3; have HR3 := Lib.hid hr3; have HM3 := Lib.hid (H2.out.mid hr3); have c3 := (HX.out.grown hr3 HBO.out.1).cell; clear hg3 hr3 hr3a) | (go_at_call 32; refine (HA.out.ref R g _ (by exact HM3.out)).mono ?_; rintro e w4 ⟨rfl, hg4, hr4a⟩; have hr4 : w3.grownBy w4 (some g) := ⟨hr4a.os, hr4a.tape, hr4a.output, hr4a.size, hr4a.block⟩; have H4 := Lib.hid hg4; have HR4 := Lib.hid hr4; clear hg4 hr4 hr4a))
    all_goals (go_wp2_with fail; go_ret)
    all_goals exact ⟨rfl, l', HA.out.len, H2.out.step H3.out H4.out HR4.out, HL.out.trans (H2.out.below HD2.out HR3.out HR4.out)⟩
  · obtain ⟨c, l', hA⟩ := set_agree ev on l
    have HA := Lib.hid hA
    clear hA
    go_wp2_with fail
    go_region_with (first | (go_at_call 12; refine (HA.out.gpe B _ (by exact H2.out.gpe)).mono ?_; rintro e w3 ⟨rfl, hg3, hr3a⟩; have hr3 : w2.grownBy w3 (some B) := ⟨hr3a.os, hr3a.tape, hr3a.output, hr3a.size, hr3a.block⟩; have H3 := Lib.hid hg3; have HR3 := Lib.hid hr3; have HM3 := Lib.hid (H2.out.mid hr3); have c3 := (HX.out.grown hr3 HBO.out.1).cell; clear hg3 hr3 hr3a) | (go_at_call 32; refine (HA.out.ref R g _ (by exact HM3.out)).mono ?_; rintro e w4 ⟨rfl, hg4, hr4a⟩; have hr4 : w3.grownBy w4 (some g) := ⟨hr4a.os, hr4a.tape, hr4a.output, hr4a.size, hr4a.block⟩; have H4 := Lib.hid hg4; have HR4 := Lib.hid hr4; clear hg4 hr4 hr4a))
    all_goals (go_wp2_with fail; go_ret)
    all_goals exact ⟨rfl, l', HA.out.len, H2.out.step H3.out H4.out HR4.out, HL.out.trans (H2.out.below HD2.out HR3.out HR4.out)⟩
  · obtain ⟨c, l', hA⟩ := set_agree ev on l
    have HA := Lib.hid hA
    clear hA
    go_wp2_with fail
    go_region_with (first | (go_at_call 12; refine (HA.out.gpe B _ (by exact H2.out.gpe)).mono ?_; rintro e w3 ⟨rfl, hg3, hr3a⟩; have hr3 : w2.grownBy w3 (some B) := ⟨hr3a.os, hr3a.tape, hr3a.output, hr3a.size, hr3a.block⟩; have H3 := Lib.hid hg3; have HR3 := Lib.hid hr3; have HM3 := Lib.hid (H2.out.mid hr3); have c3 := (HX.out.grown hr3 HBO.out.1).cell; clear hg3 hr3 hr3a) | (go_at_call 32; refine (HA.out.ref R g _ (by exact HM3.out)).mono ?_; rintro e w4 ⟨rfl, hg4, hr4a⟩; have hr4 : w3.grownBy w4 (some g) := ⟨hr4a.os, hr4a.tape, hr4a.output, hr4a.size, hr4a.block⟩; have H4 := Lib.hid hg4; have HR4 := Lib.hid hr4; clear hg4 hr4 hr4a))
    all_goals (go_wp2_with fail; go_ret)
    all_goals exact ⟨rfl, l', HA.out.len, H2.out.step H3.out H4.out HR4.out, HL.out.trans (H2.out.below HD2.out HR3.out HR4.out)⟩
  · obtain ⟨c, l', hA⟩ := enable_agree ev on l
    have HA := Lib.hid hA
    clear hA
    go_wp2_with fail
    go_region_with (first | (go_at_call 11; refine (HA.out.gpe B _ (by exact H2.out.gpe)).mono ?_; rintro e w3 ⟨rfl, hg3, hr3a⟩; have hr3 : w2.grownBy w3 (some B) := ⟨hr3a.os, hr3a.tape, hr3a.output, hr3a.size, hr3a.block⟩; have H3 := Lib.hid hg3; have HR3 := Lib.hid hr3; have HM3 := Lib.hid (H2.out.mid hr3); have c3 := (HX.out.grown hr3 HBO.out.1).cell; clear hg3 hr3 hr3a) | (go_at_call 28; refine (HA.out.ref R g _ (by exact HM3.out)).mono ?_; rintro e w4 ⟨rfl, hg4, hr4a⟩; have hr4 : w3.grownBy w4 (some g) := ⟨hr4a.os, hr4a.tape, hr4a.output, hr4a.size, hr4a.block⟩; have H4 := Lib.hid hg4; have HR4 := Lib.hid hr4; clear hg4 hr4 hr4a))
    all_goals (go_wp2_with fail; go_ret)
    all_goals exact ⟨rfl, l', HA.out.len, H2.out.step H3.out H4.out HR4.out, HL.out.trans (H2.out.below HD2.out HR3.out HR4.out)⟩
  · obtain ⟨c, l', hA⟩ := enableWake_agree ev on l
    have HA := Lib.hid hA
    clear hA
    go_wp2_with fail
    go_region_with (first | (go_at_call 23; refine (HA.out.gpe B _ (by exact H2.out.gpe)).mono ?_; rintro e w3 ⟨rfl, hg3, hr3a⟩; have hr3 : w2.grownBy w3 (some B) := ⟨hr3a.os, hr3a.tape, hr3a.output, hr3a.size, hr3a.block⟩; have H3 := Lib.hid hg3; have HR3 := Lib.hid hr3; have HM3 := Lib.hid (H2.out.mid hr3); have c3 := (HX.out.grown hr3 HBO.out.1).cell; clear hg3 hr3 hr3a) | (go_at_call 29; refine (HA.out.ref R g _ (by exact HM3.out)).mono ?_; rintro e w4 ⟨rfl, hg4, hr4a⟩; have hr4 : w3.grownBy w4 (some g) := ⟨hr4a.os, hr4a.tape, hr4a.output, hr4a.size, hr4a.block⟩; have H4 := Lib.hid hg4; have HR4 := Lib.hid hr4; clear hg4 hr4 hr4a))
    all_goals (go_wp2_with fail; go_ret)
    all_goals exact ⟨rfl, l', HA.out.len, H2.out.step H3.out H4.out HR4.out, HL.out.trans (H2.out.below HD2.out HR3.out HR4.out)⟩
  · go_wp2_with fail
    refine (rnext_any R g l _ H2.out.ref).mono ?_
    rintro e w' ⟨rfl, rfl⟩
    cases hf : first rdy l with
    | none =>
      simp only [nextV]
      obtain ⟨s, c, l', hA⟩ := begin_agree ev l
      have HA := Lib.hid hA
      clear hA
      go_wp2_with fail
      refine (HA.out.gpe B _ H2.out.gpe).mono ?_
      rintro e w3 ⟨rfl, hg3, hr3⟩
      have H3 := Lib.hid hg3
      have HR3 := Lib.hid hr3
      have HM3 := Lib.hid (H2.out.mid hr3)
      clear hg3 hr3
      go_wp2_with fail
      refine (HA.out.ref R g _ HM3.out).mono ?_
      rintro e w4 ⟨rfl, hg4, hr4⟩
      have H4 := Lib.hid hg4
      have HR4 := Lib.hid hr4
      clear hg4 hr4
      go_wp2_with fail
      go_ret
      exact ⟨rfl, l', HA.out.len, H2.out.step H3.out H4.out HR4.out, HL.out.trans (H2.out.below HD2.out HR3.out HR4.out)⟩
    | some k =>
      simp only [nextV]
      cases on
      · obtain ⟨s, c, l', hA⟩ := begin_agree ev l
        have HA := Lib.hid hA
        clear hA
        go_wp2_with fail
        refine (HA.out.gpe B _ H2.out.gpe).mono ?_
        rintro e w3 ⟨rfl, hg3, hr3⟩
        have H3 := Lib.hid hg3
        have HR3 := Lib.hid hr3
        have HM3 := Lib.hid (H2.out.mid hr3)
        clear hg3 hr3
        go_wp2_with fail
        refine (HA.out.ref R g _ HM3.out).mono ?_
        rintro e w4 ⟨rfl, hg4, hr4⟩
        have H4 := Lib.hid hg4
        have HR4 := Lib.hid hr4
        clear hg4 hr4
        go_wp2_with fail
        go_ret
        exact ⟨rfl, l', HA.out.len, H2.out.step H3.out H4.out HR4.out, HL.out.trans (H2.out.below HD2.out HR3.out HR4.out)⟩
      · obtain ⟨s, c, l', hA⟩ := begin_agree k l
        have HA := Lib.hid hA
        clear hA
        go_wp2_with fail
        refine (HA.out.gpe B _ H2.out.gpe).mono ?_
        rintro e w3 ⟨rfl, hg3, hr3⟩
        have H3 := Lib.hid hg3
        have HR3 := Lib.hid hr3
        have HM3 := Lib.hid (H2.out.mid hr3)
        clear hg3 hr3
        go_wp2_with fail
        refine (HA.out.ref R g _ HM3.out).mono ?_
        rintro e w4 ⟨rfl, hg4, hr4⟩
        have H4 := Lib.hid hg4
        have HR4 := Lib.hid hr4
        clear hg4 hr4
        go_wp2_with fail
        go_ret
        exact ⟨rfl, l', HA.out.len, H2.out.step H3.out H4.out HR4.out, HL.out.trans (H2.out.below HD2.out HR3.out HR4.out)⟩
  · obtain ⟨c, l', hA⟩ := complete_agree ev l
    have HA := Lib.hid hA
    clear hA
    go_wp2_with fail
    refine (HA.out.gpe B _ H2.out.gpe).mono ?_
    rintro e w3 ⟨rfl, hg3, hr3⟩
    have H3 := Lib.hid hg3
    have HR3 := Lib.hid hr3
    have HM3 := Lib.hid (H2.out.mid hr3)
    clear hg3 hr3
    go_wp2_with fail
    refine (HA.out.ref R g _ HM3.out).mono ?_
    rintro e w4 ⟨rfl, hg4, hr4⟩
    have H4 := Lib.hid hg4
    have HR4 := Lib.hid hr4
    clear hg4 hr4
    go_wp2_with fail
    go_ret
    exact ⟨rfl, l', HA.out.len, H2.out.step H3.out H4.out HR4.out, HL.out.trans (H2.out.below HD2.out HR3.out HR4.out)⟩
  · obtain ⟨c, l', hA⟩ := complete_agree ev l
    have HA := Lib.hid hA
    clear hA
    go_wp2_with fail
    refine (HA.out.gpe B _ H2.out.gpe).mono ?_
    rintro e w3 ⟨rfl, hg3, hr3⟩
    have H3 := Lib.hid hg3
    have HR3 := Lib.hid hr3
    have HM3 := Lib.hid (H2.out.mid hr3)
    clear hg3 hr3
    go_wp2_with fail
    refine (HA.out.ref R g _ HM3.out).mono ?_
    rintro e w4 ⟨rfl, hg4, hr4⟩
    have H4 := Lib.hid hg4
    have HR4 := Lib.hid hr4
    clear hg4 hr4
    go_wp2_with fail
    go_ret
    exact ⟨rfl, l', HA.out.len, H2.out.step H3.out H4.out HR4.out, HL.out.trans (H2.out.below HD2.out HR3.out HR4.out)⟩
end Go.Proofs.YtdgeocmcmcflfaaDoor
