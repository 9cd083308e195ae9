/- The walks of package gpe, each function once, over the plain model. -/
import Derived.Test.YtdgeocmcmcflfaaDoorProg
import Derived.Test.YtdgeocmcmcflfaaDoorMath
import Derived.WalkKit
import Derived.WalkLawsBesides
import Derived.WalkSpells
import Derived.BigQuiet
import Derived.Lib.Hide
import Derived.Deep.Light
import Derived.Deep.RegionWith
namespace Go.Proofs.YtdgeocmcmcflfaaDoor
open Go.RowKit

/-- The cells of a block of events. -/
def blk (l : List Ev) : List Value := [.int .i64 l.length, .int .u64 (word Ev.level l), .int .u64 (word Ev.line l), .int .u64 (word Ev.status l), .int .u64 (word Ev.enable l), .int .u64 (word Ev.wake l), .int .u64 (word Ev.busy l)]

/-- Block b of memory is a block of the events l. -/
def GpeAt (w : World) (b : Nat) (l : List Ev) : Prop := w.heap[b]? = some (.cells (blk l).toArray 49 (0, 0)) ∧ l.length ≤ 64

theorem GpeAt.cell {w : World} {b : Nat} {l : List Ev} (h : GpeAt w b l) (j : Nat) : w.cell? ⟨b, j, none⟩ = (blk l)[j]? := by
  rw [cell_of_row w b j _ _ _ h.1]; simp
theorem GpeAt.free {w : World} {b : Nat} {l : List Ev} (h : GpeAt w b l) (j : Nat) : w.frozen? ⟨b, j, none⟩ = false := frozen_of_row w b j _ _ h.1

theorem tz64_key (x a : Nat) (hx : x < 18446744073709551616) (hx0 : x ≠ 0) (hlow : x &&& (18446744073709551616 - x) = a) :
    IntKind.u64.wrap (bits BinOp.and IntKind.u64 (x : Int) (IntKind.u64.wrap (-(x : Int))) * 285870213051353865) / 288230376151711744 = ((a * 285870213051353865 % 18446744073709551616 / 288230376151711744 : Nat) : Int) := by
  have e1 : IntKind.u64.wrap (-(x : Int)) = ((18446744073709551616 - x : Nat) : Int) := by rw [IntKind.wrap_u64]; omega
  rw [e1, bits_and_u64_nat x _ hx (by omega), hlow, IntKind.wrap_u64]
  omega

/-- The table of math/bits in its variable. -/
def Tab (w : World) : Prop := ∀ j, j < Lib.deBruijn64tab.length → w.cell? ⟨0, j, none⟩ = some (.int .u8 (Lib.deBruijn64tab.getD j 0))

set_option maxHeartbeats 1000000 in
theorem tz_core (x : Int) (k idx : Nat) (w : World) (hx0 : (x == 0) = false)
    (key : IntKind.u64.wrap (bits BinOp.and IntKind.u64 x (IntKind.u64.wrap (-x)) * 285870213051353865) / 288230376151711744 = (idx : Int))
    (hi : idx < 64) (hk : k < 64) (hcell : w.cell? ⟨0, idx, none⟩ = some (.int .u8 k)) :
    Calls Tryd.prog 27 #[.int .u64 x] w fun e w' => e = .returned (.int .i64 k) ∧ w = w' := by
  go_enter Tryd.func27, Tryd.ntmps27
  go_wp2_with (simp only [key])
  go_ret
  exact ⟨rfl, rfl⟩

theorem tz_any (f : Ev → Bool) (l : List Ev) (k : Nat) (w : World) (hl : l.length ≤ 64) (hk : first f l = some k) (hT : Tab w) :
    Calls Tryd.prog 27 #[.int .u64 (word f l)] w fun e w' => e = .returned (.int .i64 k) ∧ w = w' := by
  have hx := word_lt64 f l hl
  have hx0 : word f l ≠ 0 := by intro h; rw [← first_none, hk] at h; cases h
  obtain ⟨hlow, hk'⟩ := Lib.lowest_bit 64 (word f l) hx0 hx
  obtain ⟨hi, htab⟩ := Lib.deBruijn64_at _ hk'
  have hcell := hT _ hi
  rw [htab] at hcell
  rw [ctz_first f l k hl hk] at hcell hi hk' hlow
  exact tz_core _ k _ w (by simp; omega) (tz64_key _ _ hx hx0 hlow) hi hk' hcell

/-- change(word, mask, true) -/
theorem change_on (b j : Nat) (x m : Int) (w : World) (hc : w.cell? ⟨b, j, none⟩ = some (.int .u64 x)) (hf : w.frozen? ⟨b, j, none⟩ = false) :
    Calls Tryd.prog 24 #[.pointer (some ⟨b, j, none⟩), .int .u64 m, .bool true] w fun e w' => e = .returned (.tuple #[]) ∧ w.setCell ⟨b, j, none⟩ (.int .u64 (bits .or .u64 x m)) = w' := by
  go_enter Tryd.func24, Tryd.ntmps24
  go_wp2
  go_end0
  exact ⟨rfl, rfl⟩
theorem change_off (b j : Nat) (x m : Int) (w : World) (hc : w.cell? ⟨b, j, none⟩ = some (.int .u64 x)) (hf : w.frozen? ⟨b, j, none⟩ = false) :
    Calls Tryd.prog 24 #[.pointer (some ⟨b, j, none⟩), .int .u64 m, .bool false] w fun e w' => e = .returned (.tuple #[]) ∧ w.setCell ⟨b, j, none⟩ (.int .u64 (bits .andNot .u64 x m)) = w' := by
  go_enter Tryd.func24, Tryd.ntmps24
  go_wp2
  go_end0
  exact ⟨rfl, rfl⟩
theorem mask_no (b : Nat) (n ev : Int) (w : World) (hc : w.cell? ⟨b, 0, none⟩ = some (.int .i64 n)) (h : ev < 0 ∨ n ≤ ev) :
    Calls Tryd.prog 25 #[.pointer (some ⟨b, 0, none⟩), .int .i64 ev] w fun e w' => e = .returned (.int .u64 0) ∧ w = w' := by
  by_cases h0 : ev < 0
  · go_enter Tryd.func25, Tryd.ntmps25
    go_wp2
    go_ret
    exact ⟨rfl, rfl⟩
  · have h1 : n ≤ ev := by omega
    go_enter Tryd.func25, Tryd.ntmps25
    go_wp2
    go_ret
    exact ⟨rfl, rfl⟩
theorem mask_yes (b k : Nat) (n m : Int) (w : World) (HM : Hid (m = (2 ^ k : Nat))) (hc : w.cell? ⟨b, 0, none⟩ = some (.int .i64 n)) (h : (k : Int) < n) (hn : n ≤ 64) :
    Calls Tryd.prog 25 #[.pointer (some ⟨b, 0, none⟩), .int .i64 k] w fun e w' => e = .returned (.int .u64 m) ∧ w = w' := by
  have hb := bit_lt64 k (by omega)
  go_enter Tryd.func25, Tryd.ntmps25
  go_wp2
  go_ret
  refine ⟨?_, rfl⟩
  have e1 : IntKind.u64.wrap (2 ^ k) = ((2 ^ k : Nat) : Int) := by
    have e2 : (2 : Int) ^ k = ((2 ^ k : Nat) : Int) := by rw [Int.natCast_pow]; rfl
    have hz : ∀ z : Nat, z < 18446744073709551616 → IntKind.u64.wrap (z : Int) = z := fun z _ => IntWalk.u64_in _ ⟨by omega, by omega⟩
    rw [e2]; exact hz _ hb
  rw [HM.out, ← e1]
  rfl

theorem GpeAt.put {w : World} {b : Nat} {l l' : List Ev} {j : Nat} {v : Value} (h : GpeAt w b l) (hl : l'.length = l.length) (hj : blk l' = (blk l).set j v) : GpeAt (w.setCell ⟨b, j, none⟩ v) b l' := by
  refine ⟨?_, by rw [hl]; exact h.2⟩
  rw [heap_setCell_same w b j _ _ v h.1, hj]
  simp

theorem GpeAt.level_on {w : World} {b k : Nat} {l : List Ev} {e : Ev} {x m : Int} (h : GpeAt w b l) (he : l[k]? = some e) (HX : Hid (x = (word Ev.level l : Nat))) (HM : Hid (m = (2 ^ k : Nat))) :
    GpeAt (w.setCell ⟨b, 1, none⟩ (.int .u64 (bits .or .u64 x m))) b (l.set k { e with level := true }) := by
  have hk : k < l.length := (List.getElem?_eq_some_iff.1 he).1
  have hw := word_lt64 Ev.level l h.2
  have hb := bit_lt64 k (by have := h.2; omega)
  refine h.put (List.length_set ..) ?_
  have hv : bits .or .u64 x m = (word Ev.level (l.set k { e with level := true }) : Nat) := by
    rw [HX.out, HM.out, u64_or_nat _ _ hw hb, or_bit Ev.level l k { e with level := true } hk rfl]
  rw [hv]
  simp only [blk, List.length_set, same_bit Ev.line l k e { e with level := true } he rfl, same_bit Ev.status l k e { e with level := true } he rfl, same_bit Ev.enable l k e { e with level := true } he rfl, same_bit Ev.wake l k e { e with level := true } he rfl, same_bit Ev.busy l k e { e with level := true } he rfl, List.set_cons_succ, List.set_cons_zero]
theorem GpeAt.level_off {w : World} {b k : Nat} {l : List Ev} {e : Ev} {x m : Int} (h : GpeAt w b l) (he : l[k]? = some e) (HX : Hid (x = (word Ev.level l : Nat))) (HM : Hid (m = (2 ^ k : Nat))) :
    GpeAt (w.setCell ⟨b, 1, none⟩ (.int .u64 (bits .andNot .u64 x m))) b (l.set k { e with level := false }) := by
  have hk : k < l.length := (List.getElem?_eq_some_iff.1 he).1
  have hw := word_lt64 Ev.level l h.2
  have hb := bit_lt64 k (by have := h.2; omega)
  refine h.put (List.length_set ..) ?_
  have hv : bits .andNot .u64 x m = (word Ev.level (l.set k { e with level := false }) : Nat) := by
    rw [HX.out, HM.out, u64_andNot_nat _ _ hw hb, andNot_bit Ev.level l k { e with level := false } h.2 hk rfl]
  rw [hv]
  simp only [blk, List.length_set, same_bit Ev.line l k e { e with level := false } he rfl, same_bit Ev.status l k e { e with level := false } he rfl, same_bit Ev.enable l k e { e with level := false } he rfl, same_bit Ev.wake l k e { e with level := false } he rfl, same_bit Ev.busy l k e { e with level := false } he rfl, List.set_cons_succ, List.set_cons_zero]
theorem GpeAt.line_on {w : World} {b k : Nat} {l : List Ev} {e : Ev} {x m : Int} (h : GpeAt w b l) (he : l[k]? = some e) (HX : Hid (x = (word Ev.line l : Nat))) (HM : Hid (m = (2 ^ k : Nat))) :
    GpeAt (w.setCell ⟨b, 2, none⟩ (.int .u64 (bits .or .u64 x m))) b (l.set k { e with line := true }) := by
  have hk : k < l.length := (List.getElem?_eq_some_iff.1 he).1
  have hw := word_lt64 Ev.line l h.2
  have hb := bit_lt64 k (by have := h.2; omega)
  refine h.put (List.length_set ..) ?_
  have hv : bits .or .u64 x m = (word Ev.line (l.set k { e with line := true }) : Nat) := by
    rw [HX.out, HM.out, u64_or_nat _ _ hw hb, or_bit Ev.line l k { e with line := true } hk rfl]
  rw [hv]
  simp only [blk, List.length_set, same_bit Ev.level l k e { e with line := true } he rfl, same_bit Ev.status l k e { e with line := true } he rfl, same_bit Ev.enable l k e { e with line := true } he rfl, same_bit Ev.wake l k e { e with line := true } he rfl, same_bit Ev.busy l k e { e with line := true } he rfl, List.set_cons_succ, List.set_cons_zero]
theorem GpeAt.line_off {w : World} {b k : Nat} {l : List Ev} {e : Ev} {x m : Int} (h : GpeAt w b l) (he : l[k]? = some e) (HX : Hid (x = (word Ev.line l : Nat))) (HM : Hid (m = (2 ^ k : Nat))) :
    GpeAt (w.setCell ⟨b, 2, none⟩ (.int .u64 (bits .andNot .u64 x m))) b (l.set k { e with line := false }) := by
  have hk : k < l.length := (List.getElem?_eq_some_iff.1 he).1
  have hw := word_lt64 Ev.line l h.2
  have hb := bit_lt64 k (by have := h.2; omega)
  refine h.put (List.length_set ..) ?_
  have hv : bits .andNot .u64 x m = (word Ev.line (l.set k { e with line := false }) : Nat) := by
    rw [HX.out, HM.out, u64_andNot_nat _ _ hw hb, andNot_bit Ev.line l k { e with line := false } h.2 hk rfl]
  rw [hv]
  simp only [blk, List.length_set, same_bit Ev.level l k e { e with line := false } he rfl, same_bit Ev.status l k e { e with line := false } he rfl, same_bit Ev.enable l k e { e with line := false } he rfl, same_bit Ev.wake l k e { e with line := false } he rfl, same_bit Ev.busy l k e { e with line := false } he rfl, List.set_cons_succ, List.set_cons_zero]
theorem GpeAt.status_on {w : World} {b k : Nat} {l : List Ev} {e : Ev} {x m : Int} (h : GpeAt w b l) (he : l[k]? = some e) (HX : Hid (x = (word Ev.status l : Nat))) (HM : Hid (m = (2 ^ k : Nat))) :
    GpeAt (w.setCell ⟨b, 3, none⟩ (.int .u64 (bits .or .u64 x m))) b (l.set k { e with status := true }) := by
  have hk : k < l.length := (List.getElem?_eq_some_iff.1 he).1
  have hw := word_lt64 Ev.status l h.2
  have hb := bit_lt64 k (by have := h.2; omega)
  refine h.put (List.length_set ..) ?_
  have hv : bits .or .u64 x m = (word Ev.status (l.set k { e with status := true }) : Nat) := by
    rw [HX.out, HM.out, u64_or_nat _ _ hw hb, or_bit Ev.status l k { e with status := true } hk rfl]
  rw [hv]
  simp only [blk, List.length_set, same_bit Ev.level l k e { e with status := true } he rfl, same_bit Ev.line l k e { e with status := true } he rfl, same_bit Ev.enable l k e { e with status := true } he rfl, same_bit Ev.wake l k e { e with status := true } he rfl, same_bit Ev.busy l k e { e with status := true } he rfl, List.set_cons_succ, List.set_cons_zero]
theorem GpeAt.status_off {w : World} {b k : Nat} {l : List Ev} {e : Ev} {x m : Int} (h : GpeAt w b l) (he : l[k]? = some e) (HX : Hid (x = (word Ev.status l : Nat))) (HM : Hid (m = (2 ^ k : Nat))) :
    GpeAt (w.setCell ⟨b, 3, none⟩ (.int .u64 (bits .andNot .u64 x m))) b (l.set k { e with status := false }) := by
  have hk : k < l.length := (List.getElem?_eq_some_iff.1 he).1
  have hw := word_lt64 Ev.status l h.2
  have hb := bit_lt64 k (by have := h.2; omega)
  refine h.put (List.length_set ..) ?_
  have hv : bits .andNot .u64 x m = (word Ev.status (l.set k { e with status := false }) : Nat) := by
    rw [HX.out, HM.out, u64_andNot_nat _ _ hw hb, andNot_bit Ev.status l k { e with status := false } h.2 hk rfl]
  rw [hv]
  simp only [blk, List.length_set, same_bit Ev.level l k e { e with status := false } he rfl, same_bit Ev.line l k e { e with status := false } he rfl, same_bit Ev.enable l k e { e with status := false } he rfl, same_bit Ev.wake l k e { e with status := false } he rfl, same_bit Ev.busy l k e { e with status := false } he rfl, List.set_cons_succ, List.set_cons_zero]
theorem GpeAt.enable_on {w : World} {b k : Nat} {l : List Ev} {e : Ev} {x m : Int} (h : GpeAt w b l) (he : l[k]? = some e) (HX : Hid (x = (word Ev.enable l : Nat))) (HM : Hid (m = (2 ^ k : Nat))) :
    GpeAt (w.setCell ⟨b, 4, none⟩ (.int .u64 (bits .or .u64 x m))) b (l.set k { e with enable := true }) := by
  have hk : k < l.length := (List.getElem?_eq_some_iff.1 he).1
  have hw := word_lt64 Ev.enable l h.2
  have hb := bit_lt64 k (by have := h.2; omega)
  refine h.put (List.length_set ..) ?_
  have hv : bits .or .u64 x m = (word Ev.enable (l.set k { e with enable := true }) : Nat) := by
    rw [HX.out, HM.out, u64_or_nat _ _ hw hb, or_bit Ev.enable l k { e with enable := true } hk rfl]
  rw [hv]
  simp only [blk, List.length_set, same_bit Ev.level l k e { e with enable := true } he rfl, same_bit Ev.line l k e { e with enable := true } he rfl, same_bit Ev.status l k e { e with enable := true } he rfl, same_bit Ev.wake l k e { e with enable := true } he rfl, same_bit Ev.busy l k e { e with enable := true } he rfl, List.set_cons_succ, List.set_cons_zero]
theorem GpeAt.enable_off {w : World} {b k : Nat} {l : List Ev} {e : Ev} {x m : Int} (h : GpeAt w b l) (he : l[k]? = some e) (HX : Hid (x = (word Ev.enable l : Nat))) (HM : Hid (m = (2 ^ k : Nat))) :
    GpeAt (w.setCell ⟨b, 4, none⟩ (.int .u64 (bits .andNot .u64 x m))) b (l.set k { e with enable := false }) := by
  have hk : k < l.length := (List.getElem?_eq_some_iff.1 he).1
  have hw := word_lt64 Ev.enable l h.2
  have hb := bit_lt64 k (by have := h.2; omega)
  refine h.put (List.length_set ..) ?_
  have hv : bits .andNot .u64 x m = (word Ev.enable (l.set k { e with enable := false }) : Nat) := by
    rw [HX.out, HM.out, u64_andNot_nat _ _ hw hb, andNot_bit Ev.enable l k { e with enable := false } h.2 hk rfl]
  rw [hv]
  simp only [blk, List.length_set, same_bit Ev.level l k e { e with enable := false } he rfl, same_bit Ev.line l k e { e with enable := false } he rfl, same_bit Ev.status l k e { e with enable := false } he rfl, same_bit Ev.wake l k e { e with enable := false } he rfl, same_bit Ev.busy l k e { e with enable := false } he rfl, List.set_cons_succ, List.set_cons_zero]
theorem GpeAt.wake_on {w : World} {b k : Nat} {l : List Ev} {e : Ev} {x m : Int} (h : GpeAt w b l) (he : l[k]? = some e) (HX : Hid (x = (word Ev.wake l : Nat))) (HM : Hid (m = (2 ^ k : Nat))) :
    GpeAt (w.setCell ⟨b, 5, none⟩ (.int .u64 (bits .or .u64 x m))) b (l.set k { e with wake := true }) := by
  have hk : k < l.length := (List.getElem?_eq_some_iff.1 he).1
  have hw := word_lt64 Ev.wake l h.2
  have hb := bit_lt64 k (by have := h.2; omega)
  refine h.put (List.length_set ..) ?_
  have hv : bits .or .u64 x m = (word Ev.wake (l.set k { e with wake := true }) : Nat) := by
    rw [HX.out, HM.out, u64_or_nat _ _ hw hb, or_bit Ev.wake l k { e with wake := true } hk rfl]
  rw [hv]
  simp only [blk, List.length_set, same_bit Ev.level l k e { e with wake := true } he rfl, same_bit Ev.line l k e { e with wake := true } he rfl, same_bit Ev.status l k e { e with wake := true } he rfl, same_bit Ev.enable l k e { e with wake := true } he rfl, same_bit Ev.busy l k e { e with wake := true } he rfl, List.set_cons_succ, List.set_cons_zero]
theorem GpeAt.wake_off {w : World} {b k : Nat} {l : List Ev} {e : Ev} {x m : Int} (h : GpeAt w b l) (he : l[k]? = some e) (HX : Hid (x = (word Ev.wake l : Nat))) (HM : Hid (m = (2 ^ k : Nat))) :
    GpeAt (w.setCell ⟨b, 5, none⟩ (.int .u64 (bits .andNot .u64 x m))) b (l.set k { e with wake := false }) := by
  have hk : k < l.length := (List.getElem?_eq_some_iff.1 he).1
  have hw := word_lt64 Ev.wake l h.2
  have hb := bit_lt64 k (by have := h.2; omega)
  refine h.put (List.length_set ..) ?_
  have hv : bits .andNot .u64 x m = (word Ev.wake (l.set k { e with wake := false }) : Nat) := by
    rw [HX.out, HM.out, u64_andNot_nat _ _ hw hb, andNot_bit Ev.wake l k { e with wake := false } h.2 hk rfl]
  rw [hv]
  simp only [blk, List.length_set, same_bit Ev.level l k e { e with wake := false } he rfl, same_bit Ev.line l k e { e with wake := false } he rfl, same_bit Ev.status l k e { e with wake := false } he rfl, same_bit Ev.enable l k e { e with wake := false } he rfl, same_bit Ev.busy l k e { e with wake := false } he rfl, List.set_cons_succ, List.set_cons_zero]
theorem GpeAt.busy_on {w : World} {b k : Nat} {l : List Ev} {e : Ev} {x m : Int} (h : GpeAt w b l) (he : l[k]? = some e) (HX : Hid (x = (word Ev.busy l : Nat))) (HM : Hid (m = (2 ^ k : Nat))) :
    GpeAt (w.setCell ⟨b, 6, none⟩ (.int .u64 (bits .or .u64 x m))) b (l.set k { e with busy := true }) := by
  have hk : k < l.length := (List.getElem?_eq_some_iff.1 he).1
  have hw := word_lt64 Ev.busy l h.2
  have hb := bit_lt64 k (by have := h.2; omega)
  refine h.put (List.length_set ..) ?_
  have hv : bits .or .u64 x m = (word Ev.busy (l.set k { e with busy := true }) : Nat) := by
    rw [HX.out, HM.out, u64_or_nat _ _ hw hb, or_bit Ev.busy l k { e with busy := true } hk rfl]
  rw [hv]
  simp only [blk, List.length_set, same_bit Ev.level l k e { e with busy := true } he rfl, same_bit Ev.line l k e { e with busy := true } he rfl, same_bit Ev.status l k e { e with busy := true } he rfl, same_bit Ev.enable l k e { e with busy := true } he rfl, same_bit Ev.wake l k e { e with busy := true } he rfl, List.set_cons_succ, List.set_cons_zero]
theorem GpeAt.busy_off {w : World} {b k : Nat} {l : List Ev} {e : Ev} {x m : Int} (h : GpeAt w b l) (he : l[k]? = some e) (HX : Hid (x = (word Ev.busy l : Nat))) (HM : Hid (m = (2 ^ k : Nat))) :
    GpeAt (w.setCell ⟨b, 6, none⟩ (.int .u64 (bits .andNot .u64 x m))) b (l.set k { e with busy := false }) := by
  have hk : k < l.length := (List.getElem?_eq_some_iff.1 he).1
  have hw := word_lt64 Ev.busy l h.2
  have hb := bit_lt64 k (by have := h.2; omega)
  refine h.put (List.length_set ..) ?_
  have hv : bits .andNot .u64 x m = (word Ev.busy (l.set k { e with busy := false }) : Nat) := by
    rw [HX.out, HM.out, u64_andNot_nat _ _ hw hb, andNot_bit Ev.busy l k { e with busy := false } h.2 hk rfl]
  rw [hv]
  simp only [blk, List.length_set, same_bit Ev.level l k e { e with busy := false } he rfl, same_bit Ev.line l k e { e with busy := false } he rfl, same_bit Ev.status l k e { e with busy := false } he rfl, same_bit Ev.enable l k e { e with busy := false } he rfl, same_bit Ev.wake l k e { e with busy := false } he rfl, List.set_cons_succ, List.set_cons_zero]

/-- What 'word & bit' tells. -/
theorem and_test (f : Ev → Bool) {l : List Ev} {k : Nat} {e : Ev} {x m : Int} (he : l[k]? = some e) (hl : l.length ≤ 64) (HX : Hid (x = (word f l : Nat))) (HM : Hid (m = (2 ^ k : Nat))) :
    (bits .and .u64 x m == 0) = !f e ∧ (bits .and .u64 x m != 0) = f e := by
  have hk : k < l.length := (List.getElem?_eq_some_iff.1 he).1
  have hw := word_lt64 f l hl
  have hb := bit_lt64 k (by omega)
  have hp : 0 < 2 ^ k := Nat.two_pow_pos k
  rw [HX.out, HM.out, u64_and_nat _ _ hw hb, and_bit f l k e he]
  cases f e
  · simp
  · simp only [if_true, Bool.not_true]
    have h0 : (((2 ^ k : Nat) : Int) == 0) = false := by rw [beq_eq_false_iff_ne]; omega
    exact ⟨h0, by rw [bne, h0]; rfl⟩

theorem mask_ne {k : Nat} {m : Int} (HM : Hid (m = (2 ^ k : Nat))) : (m == 0) = false := by
  have hp : 0 < 2 ^ k := Nat.two_pow_pos k
  rw [beq_eq_false_iff_ne, HM.out]; omega

theorem grown_set (w : World) (b j : Nat) (v : Value) : w.grownBy (w.setCell ⟨b, j, none⟩ v) (some b) :=
  ⟨rfl, rfl, rfl, by simp, fun k _ hk => Below.heap_setCell w ⟨b, j, none⟩ v k (fun e => hk (by simp [e]))⟩
theorem grown_trans {w w1 w2 : World} {b : Nat} (h : w.grownBy w1 (some b)) (g : w1.grownBy w2 (some b)) : w.grownBy w2 (some b) :=
  ⟨g.os.trans h.os, g.tape.trans h.tape, g.output.trans h.output, Nat.le_trans h.size g.size, fun k hk hb => (g.block k (Nat.lt_of_lt_of_le hk h.size) hb).trans (h.block k hk hb)⟩
theorem grown_refl (w : World) (b : Nat) : w.grownBy w (some b) := ⟨rfl, rfl, rfl, Nat.le_refl _, fun _ _ _ => rfl⟩

theorem enable_no (b : Nat) (l : List Ev) (ev : Int) (on : Bool) (w : World) (h : GpeAt w b l) (hev : ev < 0 ∨ (l.length : Int) ≤ ev) :
    Calls Tryd.prog 11 #[.pointer (some ⟨b, 0, none⟩), .int .i64 ev, .bool on] w fun e w' => e = .returned (.int .i64 6) ∧ w = w' := by
  have c0 := h.cell 0
  simp only [blk, List.getElem?_cons_zero] at c0
  go_enter Tryd.func11, Tryd.ntmps11
  go_wp2_with (go_at_call 25; refine (mask_no b _ ev _ c0 hev).mono ?_; rintro e w' ⟨rfl, rfl⟩)
  go_ret
  exact ⟨rfl, rfl⟩
set_option maxHeartbeats 400000 in
theorem enable_yes (b k : Nat) (l : List Ev) (e : Ev) (on : Bool) (w : World) (h : GpeAt w b l) (he : l[k]? = some e) :
    Calls Tryd.prog 11 #[.pointer (some ⟨b, 0, none⟩), .int .i64 k, .bool on] w fun e' w' => e' = .returned (.int .i64 0) ∧ GpeAt w' b (l.set k { e with enable := on }) ∧ w.grownBy w' (some b) := by
  have hk : k < l.length := (List.getElem?_eq_some_iff.1 he).1
  have hl := h.2
  have c0 := h.cell 0
  have c4 := h.cell 4
  have f4 := h.free 4
  have H := Lib.hid h
  have HE := Lib.hid he
  clear h he
  obtain ⟨m, hm⟩ : ∃ m : Int, m = (2 ^ k : Nat) := ⟨_, rfl⟩
  have HM := Lib.hid hm
  have hm0 := mask_ne HM
  simp only [blk, List.getElem?_cons_zero, List.getElem?_cons_succ] at c0 c4
  obtain ⟨x, hx⟩ : ∃ x : Int, x = (word Ev.enable l : Nat) := ⟨_, rfl⟩
  have HX := Lib.hid hx
  rw [← hx] at c4
  clear hm hx
  cases on
  · go_enter Tryd.func11, Tryd.ntmps11
    go_wp2_with (first | (go_at_call 25; refine (mask_yes b k _ m _ HM c0 (by omega) (by omega)).mono ?_; rintro e w' ⟨rfl, rfl⟩) | (go_at_call 24; refine (change_off b 4 x m _ c4 f4).mono ?_; rintro e w' ⟨rfl, rfl⟩))
    go_ret
    exact ⟨rfl, H.out.enable_off HE.out HX HM, grown_set _ _ _ _⟩
  · go_enter Tryd.func11, Tryd.ntmps11
    go_wp2_with (first | (go_at_call 25; refine (mask_yes b k _ m _ HM c0 (by omega) (by omega)).mono ?_; rintro e w' ⟨rfl, rfl⟩) | (go_at_call 24; refine (change_on b 4 x m _ c4 f4).mono ?_; rintro e w' ⟨rfl, rfl⟩))
    go_ret
    exact ⟨rfl, H.out.enable_on HE.out HX HM, grown_set _ _ _ _⟩
theorem enableWake_no (b : Nat) (l : List Ev) (ev : Int) (on : Bool) (w : World) (h : GpeAt w b l) (hev : ev < 0 ∨ (l.length : Int) ≤ ev) :
    Calls Tryd.prog 23 #[.pointer (some ⟨b, 0, none⟩), .int .i64 ev, .bool on] w fun e w' => e = .returned (.int .i64 6) ∧ w = w' := by
  have c0 := h.cell 0
  simp only [blk, List.getElem?_cons_zero] at c0
  go_enter Tryd.func23, Tryd.ntmps23
  go_wp2_with (go_at_call 25; refine (mask_no b _ ev _ c0 hev).mono ?_; rintro e w' ⟨rfl, rfl⟩)
  go_ret
  exact ⟨rfl, rfl⟩
set_option maxHeartbeats 400000 in
theorem enableWake_yes (b k : Nat) (l : List Ev) (e : Ev) (on : Bool) (w : World) (h : GpeAt w b l) (he : l[k]? = some e) :
    Calls Tryd.prog 23 #[.pointer (some ⟨b, 0, none⟩), .int .i64 k, .bool on] w fun e' w' => e' = .returned (.int .i64 0) ∧ GpeAt w' b (l.set k { e with wake := on }) ∧ w.grownBy w' (some b) := by
  have hk : k < l.length := (List.getElem?_eq_some_iff.1 he).1
  have hl := h.2
  have c0 := h.cell 0
  have c5 := h.cell 5
  have f5 := h.free 5
  have H := Lib.hid h
  have HE := Lib.hid he
  clear h he
  obtain ⟨m, hm⟩ : ∃ m : Int, m = (2 ^ k : Nat) := ⟨_, rfl⟩
  have HM := Lib.hid hm
  have hm0 := mask_ne HM
  simp only [blk, List.getElem?_cons_zero, List.getElem?_cons_succ] at c0 c5
  obtain ⟨x, hx⟩ : ∃ x : Int, x = (word Ev.wake l : Nat) := ⟨_, rfl⟩
  have HX := Lib.hid hx
  rw [← hx] at c5
  clear hm hx
  cases on
  · go_enter Tryd.func23, Tryd.ntmps23
    go_wp2_with (first | (go_at_call 25; refine (mask_yes b k _ m _ HM c0 (by omega) (by omega)).mono ?_; rintro e w' ⟨rfl, rfl⟩) | (go_at_call 24; refine (change_off b 5 x m _ c5 f5).mono ?_; rintro e w' ⟨rfl, rfl⟩))
    go_ret
    exact ⟨rfl, H.out.wake_off HE.out HX HM, grown_set _ _ _ _⟩
  · go_enter Tryd.func23, Tryd.ntmps23
    go_wp2_with (first | (go_at_call 25; refine (mask_yes b k _ m _ HM c0 (by omega) (by omega)).mono ?_; rintro e w' ⟨rfl, rfl⟩) | (go_at_call 24; refine (change_on b 5 x m _ c5 f5).mono ?_; rintro e w' ⟨rfl, rfl⟩))
    go_ret
    exact ⟨rfl, H.out.wake_on HE.out HX HM, grown_set _ _ _ _⟩

/-- Set's effect on an event. -/
def setEv (e : Ev) (line : Bool) : Ev := { e with line := line, status := e.status || (line && (!e.line || e.level && !e.busy)) }

theorem set_off (e : Ev) : setEv e false = { e with line := false } := by simp [setEv]
theorem set_rise (lv st en wk bz : Bool) : setEv ⟨lv, false, st, en, wk, bz⟩ true = ⟨lv, true, true, en, wk, bz⟩ := by simp [setEv]
theorem set_stay (st en wk bz : Bool) : setEv ⟨false, true, st, en, wk, bz⟩ true = ⟨false, true, st, en, wk, bz⟩ := by simp [setEv]
theorem set_level (st en wk : Bool) : setEv ⟨true, true, st, en, wk, false⟩ true = ⟨true, true, true, en, wk, false⟩ := by simp [setEv]
theorem set_busy (st en wk : Bool) : setEv ⟨true, true, st, en, wk, true⟩ true = ⟨true, true, st, en, wk, true⟩ := by simp [setEv]
theorem get_set {l : List Ev} {k : Nat} {e e' : Ev} (he : l[k]? = some e) : (l.set k e')[k]? = some e' := by
  have hk : k < l.length := (List.getElem?_eq_some_iff.1 he).1
  rw [getElem?_set_of l k k e' hk, if_pos rfl]
theorem GpeAt.status_line {w : World} {b k : Nat} {l : List Ev} {e : Ev} {x2 x3 m : Int} (h : GpeAt w b l) (he : l[k]? = some e) (HX2 : Hid (x2 = (word Ev.line l : Nat))) (HX3 : Hid (x3 = (word Ev.status l : Nat))) (HM : Hid (m = (2 ^ k : Nat))) :
    GpeAt ((w.setCell ⟨b, 3, none⟩ (.int .u64 (bits .or .u64 x3 m))).setCell ⟨b, 2, none⟩ (.int .u64 (bits .or .u64 x2 m))) b (l.set k { e with line := true, status := true }) := by
  have h1 := h.status_on he HX3 HM
  have h2 := h1.line_on (get_set he) (x := x2) (Lib.hid (by rw [same_bit Ev.line l k e { e with status := true } he rfl]; exact HX2.out)) HM
  rwa [List.set_set] at h2

theorem set_no (b : Nat) (l : List Ev) (ev : Int) (on : Bool) (w : World) (h : GpeAt w b l) (hev : ev < 0 ∨ (l.length : Int) ≤ ev) :
    Calls Tryd.prog 12 #[.pointer (some ⟨b, 0, none⟩), .int .i64 ev, .bool on] w fun e w' => e = .returned (.int .i64 6) ∧ w = w' := by
  have c0 := h.cell 0
  simp only [blk, List.getElem?_cons_zero] at c0
  go_enter Tryd.func12, Tryd.ntmps12
  go_wp2_with (go_at_call 25; refine (mask_no b _ ev _ c0 hev).mono ?_; rintro e w' ⟨rfl, rfl⟩)
  go_ret
  exact ⟨rfl, rfl⟩
set_option maxHeartbeats 1000000 in
theorem set_yes (b k : Nat) (l : List Ev) (e : Ev) (on : Bool) (w : World) (h : GpeAt w b l) (he : l[k]? = some e) :
    Calls Tryd.prog 12 #[.pointer (some ⟨b, 0, none⟩), .int .i64 k, .bool on] w fun e' w' => e' = .returned (.int .i64 0) ∧ GpeAt w' b (l.set k (setEv e on)) ∧ w.grownBy w' (some b) := by
  have hk : k < l.length := (List.getElem?_eq_some_iff.1 he).1
  have hl := h.2
  have c0 := h.cell 0
  have c1 := h.cell 1
  have c2 := h.cell 2
  have c3 := h.cell 3
  have c6 := h.cell 6
  have f2 := h.free 2
  have f3 := h.free 3
  have H := Lib.hid h
  have HE := Lib.hid he
  clear h he
  obtain ⟨m, hm⟩ : ∃ m : Int, m = (2 ^ k : Nat) := ⟨_, rfl⟩
  have HM := Lib.hid hm
  have hm0 := mask_ne HM
  simp only [blk, List.getElem?_cons_zero, List.getElem?_cons_succ] at c0 c1 c2 c3 c6
  obtain ⟨x1, hx1⟩ : ∃ x : Int, x = (word Ev.level l : Nat) := ⟨_, rfl⟩
  obtain ⟨x2, hx2⟩ : ∃ x : Int, x = (word Ev.line l : Nat) := ⟨_, rfl⟩
  obtain ⟨x3, hx3⟩ : ∃ x : Int, x = (word Ev.status l : Nat) := ⟨_, rfl⟩
  obtain ⟨x6, hx6⟩ : ∃ x : Int, x = (word Ev.busy l : Nat) := ⟨_, rfl⟩
  have HX1 := Lib.hid hx1
  have HX2 := Lib.hid hx2
  have HX3 := Lib.hid hx3
  have HX6 := Lib.hid hx6
  rw [← hx1] at c1
  rw [← hx2] at c2
  rw [← hx3] at c3
  rw [← hx6] at c6
  clear hm hx1 hx2 hx3 hx6
  obtain ⟨t1, t1'⟩ := and_test Ev.level HE.out hl HX1 HM
  obtain ⟨t2, t2'⟩ := and_test Ev.line HE.out hl HX2 HM
  obtain ⟨t6, t6'⟩ := and_test Ev.busy HE.out hl HX6 HM
  have d2 : ∀ v, (w.setCell ⟨b, 3, none⟩ v).cell? ⟨b, 2, none⟩ = some (.int .u64 x2) := fun v => by rw [← c2]; simp [go_sem]
  have g2 : ∀ v, (w.setCell ⟨b, 3, none⟩ v).frozen? ⟨b, 2, none⟩ = false := fun v => by rw [← f2]; simp [go_sem]
  obtain ⟨lv, ln, st, en, wk, bz⟩ := e
  simp only at t1 t1' t2 t2' t6 t6'
  cases on
  · clear t1 t1' t2 t2' t6 t6'
    have HS := Lib.hid (set_off ⟨lv, ln, st, en, wk, bz⟩)
    go_enter Tryd.func12, Tryd.ntmps12
    go_wp2_with (first | (go_at_call 25; refine (mask_yes b k _ m _ HM c0 (by omega) (by omega)).mono ?_; rintro e w' ⟨rfl, rfl⟩) | (go_at_call 24; refine (change_off b 2 x2 m _ c2 f2).mono ?_; rintro e w' ⟨rfl, rfl⟩))
    go_ret
    exact ⟨rfl, by rw [HS.out]; exact H.out.line_off HE.out HX2 HM, grown_set _ _ _ _⟩
  · cases ln
    · have HS := Lib.hid (set_rise lv st en wk bz)
      go_enter Tryd.func12, Tryd.ntmps12
      go_wp2_with (first | (go_at_call 25; refine (mask_yes b k _ m _ HM c0 (by omega) (by omega)).mono ?_; rintro e w' ⟨rfl, rfl⟩) | (go_at_call 24; refine (change_on b 2 x2 m _ (d2 _) (g2 _)).mono ?_; rintro e w' ⟨rfl, rfl⟩))
      go_ret
      exact ⟨rfl, by rw [HS.out]; exact H.out.status_line HE.out HX2 HX3 HM, grown_trans (grown_set _ _ _ _) (grown_set _ _ _ _)⟩
    · cases lv
      · have HS := Lib.hid (set_stay st en wk bz)
        go_enter Tryd.func12, Tryd.ntmps12
        go_wp2_with (first | (go_at_call 25; refine (mask_yes b k _ m _ HM c0 (by omega) (by omega)).mono ?_; rintro e w' ⟨rfl, rfl⟩) | (go_at_call 24; refine (change_on b 2 x2 m _ c2 f2).mono ?_; rintro e w' ⟨rfl, rfl⟩))
        go_ret
        exact ⟨rfl, by rw [HS.out]; exact H.out.line_on HE.out HX2 HM, grown_set _ _ _ _⟩
      · cases bz
        · have HS := Lib.hid (set_level st en wk)
          go_enter Tryd.func12, Tryd.ntmps12
          go_wp2_with (first | (go_at_call 25; refine (mask_yes b k _ m _ HM c0 (by omega) (by omega)).mono ?_; rintro e w' ⟨rfl, rfl⟩) | (go_at_call 24; refine (change_on b 2 x2 m _ (d2 _) (g2 _)).mono ?_; rintro e w' ⟨rfl, rfl⟩))
          go_ret
          exact ⟨rfl, by rw [HS.out]; exact H.out.status_line HE.out HX2 HX3 HM, grown_trans (grown_set _ _ _ _) (grown_set _ _ _ _)⟩
        · have HS := Lib.hid (set_busy st en wk)
          go_enter Tryd.func12, Tryd.ntmps12
          go_wp2_with (first | (go_at_call 25; refine (mask_yes b k _ m _ HM c0 (by omega) (by omega)).mono ?_; rintro e w' ⟨rfl, rfl⟩) | (go_at_call 24; refine (change_on b 2 x2 m _ c2 f2).mono ?_; rintro e w' ⟨rfl, rfl⟩))
          go_ret
          exact ⟨rfl, by rw [HS.out]; exact H.out.line_on HE.out HX2 HM, grown_set _ _ _ _⟩

/-- The events that can be handled. -/
def rdy (e : Ev) : Bool := e.status && e.enable && !e.busy
/-- The events that wake. -/
def wks (e : Ev) : Bool := e.status && e.wake

theorem ready_word (l : List Ev) (hl : l.length ≤ 64) : bits .andNot .u64 (bits .and .u64 (word Ev.status l : Nat) (word Ev.enable l : Nat)) (word Ev.busy l : Nat) = (word rdy l : Nat) := by
  have h1 := word_lt64 Ev.status l hl
  have h2 := word_lt64 Ev.enable l hl
  have h3 := word_lt64 Ev.busy l hl
  have h4 := word_lt64 (fun e => e.status && e.enable) l hl
  rw [u64_and_nat _ _ h1 h2, word_and, u64_andNot_nat _ _ h4 h3, word_andNot _ _ _ hl]
  rfl
theorem wake_word (l : List Ev) (hl : l.length ≤ 64) : bits .and .u64 (word Ev.status l : Nat) (word Ev.wake l : Nat) = (word wks l : Nat) := by
  rw [u64_and_nat _ _ (word_lt64 Ev.status l hl) (word_lt64 Ev.wake l hl), word_and]
  rfl

theorem ready_raw (b : Nat) (x3 x4 x6 : Int) (w : World) (c3 : w.cell? ⟨b, 3, none⟩ = some (.int .u64 x3)) (c4 : w.cell? ⟨b, 4, none⟩ = some (.int .u64 x4)) (c6 : w.cell? ⟨b, 6, none⟩ = some (.int .u64 x6)) :
    Calls Tryd.prog 26 #[.pointer (some ⟨b, 0, none⟩)] w fun e w' => e = .returned (.int .u64 (bits .andNot .u64 (bits .and .u64 x3 x4) x6)) ∧ ∃ n, w' = w.drewN n := by
  go_enter Tryd.func26, Tryd.ntmps26
  go_wp2
  go_quiet (fail)
  go_wp2
  go_ret
  exact ⟨rfl, _, rfl⟩
theorem ready_any (b : Nat) (l : List Ev) (x : Int) (w : World) (h : GpeAt w b l) (HX : Hid (x = (word rdy l : Nat))) :
    Calls Tryd.prog 26 #[.pointer (some ⟨b, 0, none⟩)] w fun e w' => e = .returned (.int .u64 x) ∧ ∃ n, w' = w.drewN n := by
  have hr := ready_raw b _ _ _ w (h.cell 3) (h.cell 4) (h.cell 6)
  rw [ready_word l h.2, ← HX.out] at hr
  exact hr

theorem GpeAt.drewN {w : World} {b : Nat} {l : List Ev} (h : GpeAt w b l) (n : Nat) : GpeAt (w.drewN n) b l := h
theorem Tab.drewN {w : World} (h : Tab w) (n : Nat) : Tab (w.drewN n) := h

theorem next_none (b : Nat) (l : List Ev) (w : World) (h : GpeAt w b l) (hf : first rdy l = none) :
    Calls Tryd.prog 13 #[.pointer (some ⟨b, 0, none⟩)] w fun e w' => e = .returned (.tuple #[.int .i64 0, .bool false]) ∧ ∃ n, w' = w.drewN n := by
  have H := Lib.hid h
  have h0 : 0 = ((word rdy l : Nat) : Int) := by rw [(first_none rdy l).1 hf]; rfl
  have HX := Lib.hid h0
  clear h h0 hf
  go_enter Tryd.func13, Tryd.ntmps13
  go_wp2_with fail
  refine (ready_any b l 0 _ H.out HX).mono ?_
  rintro e w' ⟨rfl, n, rfl⟩
  go_wp2_with fail
  go_ret2
  exact ⟨rfl, _, rfl⟩
theorem next_some (b k : Nat) (l : List Ev) (w : World) (h : GpeAt w b l) (hT : Tab w) (hf : first rdy l = some k) :
    Calls Tryd.prog 13 #[.pointer (some ⟨b, 0, none⟩)] w fun e w' => e = .returned (.tuple #[.int .i64 k, .bool true]) ∧ ∃ n, w' = w.drewN n := by
  have H := Lib.hid h
  have HT := Lib.hid hT
  have HF := Lib.hid hf
  obtain ⟨x, hx⟩ : ∃ x : Int, x = (word rdy l : Nat) := ⟨_, rfl⟩
  have hx0 : (x == 0) = false := by
    rw [beq_eq_false_iff_ne, hx]
    intro h0
    have : word rdy l = 0 := by omega
    rw [← first_none, hf] at this
    cases this
  have HX := Lib.hid hx
  clear h hT hf hx
  go_enter Tryd.func13, Tryd.ntmps13
  go_wp2_with fail
  refine (ready_any b l x _ H.out HX).mono ?_
  rintro e w' ⟨rfl, n, rfl⟩
  go_wp2_with fail
  refine (ready_any b l x _ (H.out.drewN n) HX).mono ?_
  rintro e w' ⟨rfl, n2, rfl⟩
  go_wp2_with fail
  refine (Calls.mono (by rw [HX.out]; exact tz_any rdy l k _ H.out.2 HF.out ((HT.out.drewN n).drewN n2)) ?_)
  rintro e w' ⟨rfl, rfl⟩
  go_wp2_with fail
  go_ret2
  exact ⟨rfl, n + n2, rfl⟩

theorem status_no (b : Nat) (l : List Ev) (ev : Int) (w : World) (h : GpeAt w b l) (hev : ev < 0 ∨ (l.length : Int) ≤ ev) :
    Calls Tryd.prog 16 #[.pointer (some ⟨b, 0, none⟩), .int .i64 ev] w fun e w' => e = .returned (.bool false) ∧ ∃ n, w' = w.drewN n := by
  have c0 := h.cell 0
  have c3 := h.cell 3
  have h0 : (bits .and .u64 (word Ev.status l : Nat) 0 != 0) = false := by
    rw [show (0 : Int) = ((0 : Nat) : Int) from rfl, u64_and_nat _ 0 (word_lt64 _ l h.2) (by omega)]; simp
  simp only [blk, List.getElem?_cons_zero, List.getElem?_cons_succ] at c0 c3
  generalize ((word Ev.status l : Nat) : Int) = x at *
  go_enter Tryd.func16, Tryd.ntmps16
  go_wp2
  go_quiet ((go_at_call 25; exact Calls.quiet_of_same ((mask_no b _ ev _ (by go_simp) hev).mono fun _ _ h => ⟨h.1, h.2.symm⟩)))
  go_wp2
  go_ret
  exact ⟨rfl, _, rfl⟩
theorem status_yes (b k : Nat) (l : List Ev) (e : Ev) (w : World) (h : GpeAt w b l) (he : l[k]? = some e) :
    Calls Tryd.prog 16 #[.pointer (some ⟨b, 0, none⟩), .int .i64 k] w fun e' w' => e' = .returned (.bool e.status) ∧ ∃ n, w' = w.drewN n := by
  have hk : k < l.length := (List.getElem?_eq_some_iff.1 he).1
  have hl := h.2
  have c0 := h.cell 0
  have c3 := h.cell 3
  obtain ⟨m, hm⟩ : ∃ m : Int, m = (2 ^ k : Nat) := ⟨_, rfl⟩
  have HM := Lib.hid hm
  simp only [blk, List.getElem?_cons_zero, List.getElem?_cons_succ] at c0 c3
  obtain ⟨x3, hx3⟩ : ∃ x : Int, x = (word Ev.status l : Nat) := ⟨_, rfl⟩
  have HX3 := Lib.hid hx3
  rw [← hx3] at c3
  clear hm hx3
  obtain ⟨t3, t3'⟩ := and_test Ev.status he hl HX3 HM
  clear t3 he h
  go_enter Tryd.func16, Tryd.ntmps16
  go_wp2
  go_quiet ((go_at_call 25; exact Calls.quiet_of_same ((mask_yes b k (l.length : Int) m _ HM (by go_simp) (by omega) (by omega)).mono fun _ _ h => ⟨h.1, h.2.symm⟩)))
  go_wp2
  go_ret
  exact ⟨rfl, _, rfl⟩
theorem wakePending_any (b : Nat) (l : List Ev) (w : World) (h : GpeAt w b l) :
    Calls Tryd.prog 20 #[.pointer (some ⟨b, 0, none⟩)] w fun e w' => e = .returned (.bool (decide (word wks l ≠ 0))) ∧ ∃ n, w' = w.drewN n := by
  have c3 := h.cell 3
  have c5 := h.cell 5
  simp only [blk, List.getElem?_cons_zero, List.getElem?_cons_succ] at c3 c5
  have hw : (bits .and .u64 (word Ev.status l : Nat) (word Ev.wake l : Nat) != 0) = decide (word wks l ≠ 0) := by
    rw [wake_word l h.2, Bool.eq_iff_iff]; simp
  generalize ((word Ev.status l : Nat) : Int) = x3 at *
  generalize ((word Ev.wake l : Nat) : Int) = x5 at *
  generalize decide (word wks l ≠ 0) = r at *
  clear h
  go_enter Tryd.func20, Tryd.ntmps20
  go_wp2
  go_quiet (fail)
  go_wp2
  go_ret
  exact ⟨rfl, _, rfl⟩
end Go.Proofs.YtdgeocmcmcflfaaDoor
