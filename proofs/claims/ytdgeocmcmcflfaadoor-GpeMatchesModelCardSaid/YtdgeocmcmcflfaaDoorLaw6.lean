import Derived.Test.YtdgeocmcmcflfaaDoorApply
/- GpeMatchesModel: the walk. -/
namespace Go.Proofs.YtdgeocmcmcflfaaDoor
open Go.RowKit
attribute [local go_sem] ByteArray.mk_append_mk cut_mk

theorem apply_int (D B R g : Nat) (l : List Ev) (a b : Int) (on : Bool) (n : Int) (w : World) (h : Both w D B R g l) (hn : 0 ≤ n ∧ n ≤ 64) (hD : D ≤ w.heap.size) :
    Calls Tryd.prog 18 #[.pointer (some ⟨B, 0, none⟩), .pointer (some ⟨R, 0, none⟩), .agg #[.int .i64 a, .int .i64 b, .bool on], .int .i64 n] w (ApplyPost w D B R g l) := by
  obtain ⟨m, rfl⟩ := Int.eq_ofNat_of_zero_le hn.1
  exact apply_any D B R g l a b on m w h (by omega) hD
theorem nextV_form (r : Option Nat) : ∃ (p : Int) (ok : Bool), nextV r = .tuple #[.int .i64 p, .bool ok] := by
  cases r with
  | none => exact ⟨0, false, rfl⟩
  | some k => exact ⟨k, true, rfl⟩
theorem next_both (l : List Ev) : ∃ (p : Int) (ok : Bool), (∀ b w, GpeAt w b l → Tab w → Calls Tryd.prog 13 #[.pointer (some ⟨b, 0, none⟩)] w fun e w' => e = .returned (.tuple #[.int .i64 p, .bool ok]) ∧ ∃ n, w' = w.drewN n) ∧
    (∀ b g w, RefAt w b g l → Calls Tryd.prog 19 #[.pointer (some ⟨b, 0, none⟩)] w fun e w' => e = .returned (.tuple #[.int .i64 p, .bool ok]) ∧ w = w') := by
  cases hf : first rdy l with
  | none => exact ⟨0, false, fun b w h hT => next_none b l w h hf, fun b g w h => by have := rnext_any b g l w h; rw [hf] at this; exact this⟩
  | some k => exact ⟨k, true, fun b w h hT => next_some b k l w h hT hf, fun b g w h => by have := rnext_any b g l w h; rw [hf] at this; exact this⟩
theorem wake_both (l : List Ev) : ∃ (v : Bool), (∀ b w, GpeAt w b l → Calls Tryd.prog 20 #[.pointer (some ⟨b, 0, none⟩)] w fun e w' => e = .returned (.bool v) ∧ ∃ n, w' = w.drewN n) ∧
    (∀ b g w, RefAt w b g l → Calls Tryd.prog 21 #[.pointer (some ⟨b, 0, none⟩)] w fun e w' => e = .returned (.bool v) ∧ w = w') :=
  ⟨_, fun b w h => wakePending_any b l w h, fun b g w h => rwake_any b g l w h⟩
theorem status_both (ev : Int) (l : List Ev) : ∃ (v : Bool), (∀ b w, GpeAt w b l → Calls Tryd.prog 16 #[.pointer (some ⟨b, 0, none⟩), .int .i64 ev] w fun e w' => e = .returned (.bool v) ∧ ∃ n, w' = w.drewN n) ∧
    (∀ b g w, RefAt w b g l → Calls Tryd.prog 22 #[.pointer (some ⟨b, 0, none⟩), .int .i64 ev] w fun e w' => e = .returned (.bool v) ∧ w = w') := by
  rcases ev_cases ev l with h | ⟨k, e, rfl, he⟩
  · exact ⟨false, fun b w hw => status_no b l ev w hw h, fun b g w hw => rstatus_no b g l ev w hw h⟩
  · exact ⟨_, fun b w hw => status_yes b k l e w hw he, fun b g w hw => rstatus_yes b g k l e w hw he⟩

theorem Both.drewN {w : World} {D B R g : Nat} {l : List Ev} (h : Both w D B R g l) (n : Nat) : Both (w.drewN n) D B R g l := ⟨h.gpe, h.ref, h.hB, h.hg, h.hBR, h.hBg⟩
theorem below_drewN {w w' : World} {D : Nat} (h : Below D w w') (n : Nat) : Below D w (w'.drewN n) := ⟨h.os, h.tape, h.output, h.size, h.block⟩
theorem GpeAt.belowAll {w w' : World} {b : Nat} {l : List Ev} (h : GpeAt w b l) (hb : Below w.heap.size w w') : GpeAt w' b l :=
  ⟨by rw [hb.block b (Array.getElem?_eq_some_iff.1 h.1).1]; exact h.1, h.2⟩
theorem RefAt.belowAll {w w' : World} {b g : Nat} {l : List Ev} (h : RefAt w b g l) (hb : Below w.heap.size w w') : RefAt w' b g l := by
  obtain ⟨h1, h2, cap, h3, h4⟩ := h
  exact ⟨h1, h2, cap, by rw [hb.block b (Array.getElem?_eq_some_iff.1 h3).1]; exact h3, h4.kept (row := none) ⟨hb.os, hb.tape, hb.output, hb.size, fun k hk _ => hb.block k hk⟩ (.inr (by simp [Value.ownBlock]))⟩
theorem both_start {w W0 w1 w2 w3 : World} {D g : Nat} {l : List Ev} (hBel : Below D w W0) (hD : D ≤ W0.heap.size) (hg1 : GpeAt w1 W0.heap.size l) (hb1 : Below W0.heap.size W0 w1) (hgt : w1.heap.size < g) (hr2 : RefAt w2 w1.heap.size g l) (hb2 : Below w1.heap.size w1 w2) (hb3 : Below w2.heap.size w2 w3) :
    Both w3 D W0.heap.size w1.heap.size g l ∧ Below D w w3 := by
  have h1 : W0.heap.size < w1.heap.size := (Array.getElem?_eq_some_iff.1 hg1.1).1
  exact ⟨⟨(hg1.belowAll hb2).belowAll hb3, hr2.belowAll hb3, hD, by omega, by omega, by omega⟩, ((hBel.trans (hb1.mono hD)).trans (hb2.mono (by omega))).trans (hb3.mono (by have := hb2.size; omega))⟩

/-- Where the law stands between two operations. -/
def LoopAt (w : World) (D B R g n : Nat) (wr : World) : Prop := ∃ l : List Ev, l.length = n ∧ Both wr D B R g l ∧ Below D w wr ∧ D ≤ wr.heap.size
def InAt (w : World) (D B R g : Nat) (l : List Ev) (wr : World) : Prop := Both wr D B R g l ∧ Below D w wr ∧ D ≤ wr.heap.size
theorem bools_below {w w' : World} {D ab ao : Nat} {bs : List Bool} (h : BoolsAt w ab ao bs) (hb : Below D w w') (hab : ab < D) : BoolsAt w' ab ao bs := fun i hi => by
  rw [hb.cell hab]; exact h i hi
theorem size_own (w : World) : (w.alloc (Obj.cells #[Value.bool true, Value.bool false, Value.bool true, Value.bool false] 4)).heap.size = w.heap.size + 1 := by simp
theorem bools_own (w : World) : BoolsAt (w.alloc (Obj.cells #[Value.bool true, Value.bool false, Value.bool true, Value.bool false] 4)) w.heap.size 0 [true, false, true, false] := by
  intro i hi
  match i, hi with
  | 0, _ => simp [go_sem]
  | 1, _ => simp [go_sem]
  | 2, _ => simp [go_sem]
  | 3, _ => simp [go_sem]
/-- The operations handed in. -/
def OpsIn (w : World) (oa : Option Addr) (ops : List OpV) : Prop := ops.length = 0 ∨ ∃ ab ao, oa = some ⟨ab, ao, none⟩ ∧ ab < w.heap.size ∧ OpsAt w ab ao ops

theorem tab_start {w W0 w1 w2 : World} (hT : Tab w) (h0 : 0 < w.heap.size) (hBel : Below w.heap.size w W0) (hD : w.heap.size ≤ W0.heap.size) (hb1 : Below W0.heap.size W0 w1) (hb2 : Below w1.heap.size w1 w2) : Tab w2 ∧ 0 < w2.heap.size := by
  have hb : Below w.heap.size w w2 := (hBel.trans (hb1.mono hD)).trans (hb2.mono (Nat.le_trans hD hb1.size))
  exact ⟨hT.below h0 hb, Nat.lt_of_lt_of_le h0 hb.size⟩

set_option maxRecDepth 100000 in
set_option maxHeartbeats 4000000 in
theorem law_model_given (ab ao cap : Nat) (bs : List Bool) (oa : Option Addr) (ocap : Nat) (ops : List OpV) (w : World) (hT : Tab w) (h0 : 0 < w.heap.size) (hab : ab < w.heap.size) (hA : BoolsAt w ab ao bs) (h1 : 1 ≤ bs.length) (h40 : bs.length ≤ 40) (hO : OpsIn w oa ops) (hlen : ops.length ≤ 9223372036854775807) :
    Calls Tryd.prog 6 #[.slice (some ⟨ab, ao, none⟩) bs.length cap, .slice oa ops.length ocap] w fun e w' => e = .returned (.bool true) ∧ Below w.heap.size w w' := by
  have HT := Lib.hid hT
  have HO := Lib.hid hO
  have HA := Lib.hid hA
  clear hT hO hA
  have h1' : ¬ (bs.length : Int) < 1 := by omega
  have h2' : ¬ (40 : Int) < bs.length := by omega
  go_enter Tryd.func6, Tryd.ntmps6
  go_wp2_with fail
  refine (new_yes ab ao bs cap _ HA.out hab h1 (by omega)).mono ?_
  rintro e w1 ⟨rfl, hg1, hb1⟩
  have HG1 := Lib.hid hg1
  have HB1 := Lib.hid hb1
  clear hg1 hb1
  go_wp2_with fail
  refine (rnew_yes ab ao bs cap _ (bools_below HA.out HB1.out hab) (Nat.lt_of_lt_of_le hab HB1.out.size) h1 (by omega)).mono ?_
  rintro e w2 ⟨rfl, ⟨g, hgt, hr2⟩, hb2⟩
  have HR2 := Lib.hid hr2
  have HB2 := Lib.hid hb2
  have HGT := Lib.hid hgt
  clear hr2 hb2 hgt
  have hT2 : Tab w2 ∧ 0 < w2.heap.size := tab_start HT.out h0 (Below.refl _ _) (Nat.le_refl _) HB1.out HB2.out
  go_wp2_with fail
  refine (awake_any _ hT2.1 hT2.2).mono ?_
  rintro e w3 ⟨rfl, hb3⟩
  have hS := both_start (Below.refl _ _) (Nat.le_refl _) HG1.out HB1.out HGT.out HR2.out HB2.out hb3
  have HS : Hid (LoopAt w w.heap.size w.heap.size w1.heap.size g bs.length w3) := Lib.hid ⟨_, List.length_map _, hS.1, hS.2, hS.2.size⟩
  clear hb3 hT2 hS
  go_wp2_with fail
  go_loopw [8] (fun i wr => ∃ k : Nat, k ≤ ops.length ∧ k ≤ 90 ∧ i = .int .i64 k ∧ LoopAt w w.heap.size w.heap.size w1.heap.size g bs.length wr) (fun i _ => ops.length - (intOf i).toNat)
  case atStart => exact ⟨0, by omega, by omega, rfl, HS.out⟩
  case round =>
    obtain ⟨k, hk, hk90, rfl, l, hl, hbo, hbe, hDs⟩ := hrel
    have HBO := Lib.hid hbo
    have HBE := Lib.hid hbe
    clear hbo hbe HS
    by_cases hlt : k < ops.length
    · by_cases hlt90 : k < 90
      · obtain ⟨ob, oo, rfl, hob, hops⟩ : ∃ ab ao, oa = some ⟨ab, ao, none⟩ ∧ ab < w.heap.size ∧ OpsAt w ab ao ops := by
          rcases HO.out with hz | hz
          · omega
          · exact hz
        obtain ⟨c0, c1, c2⟩ := hops k hlt
        rw [← HBE.out.cell (p := ⟨ob, oo + k * 3, none⟩) hob] at c0
        rw [← HBE.out.cell (p := ⟨ob, oo + k * 3 + 1, none⟩) hob] at c1
        rw [← HBE.out.cell (p := ⟨ob, oo + k * 3 + 2, none⟩) hob] at c2
        clear hops
        generalize ops[k] = op at *
        obtain ⟨kd, evn, on⟩ := op
        simp only at c0 c1 c2
        go_wp2_with fail
        refine (apply_int w.heap.size w.heap.size w1.heap.size g l kd evn on (bs.length : Int) _ HBO.out (by omega) hDs).mono ?_
        rintro e w4 ⟨rfl, l', hl', hb4, hbe4⟩
        have H4 := Lib.hid hb4
        have HE4 : Hid (Below w.heap.size w w4) := Lib.hid (HBE.out.trans hbe4)
        have HT4 : Hid (Tab w4) := Lib.hid (HT.out.below h0 HE4.out)
        have hD4 : w.heap.size ≤ w4.heap.size := HE4.out.size
        clear hb4 hbe4 c0 c1 c2
        obtain ⟨p, ok, hn1, hn2⟩ := next_both l'
        have HN1 := Lib.hid hn1
        have HN2 := Lib.hid hn2
        obtain ⟨v, hk1, hk2⟩ := wake_both l'
        have HK1 := Lib.hid hk1
        have HK2 := Lib.hid hk2
        clear hn1 hn2 hk1 hk2
        go_wp2_with fail
        refine (HN1.out _ _ H4.out.gpe HT4.out).mono ?_
        rintro e w5 ⟨rfl, n5, rfl⟩
        go_wp2_with fail
        refine (HN2.out _ g _ (H4.out.drewN n5).ref).mono ?_
        rintro e w5 ⟨rfl, rfl⟩
        go_wp2_with fail
        refine (HK1.out _ _ (H4.out.drewN n5).gpe).mono ?_
        rintro e w6 ⟨rfl, n6, rfl⟩
        go_wp2_with fail
        refine (HK2.out _ g _ (H4.out.drewN (n5 + n6)).ref).mono ?_
        rintro e w6 ⟨rfl, rfl⟩
        have HI : Hid (InAt w w.heap.size w.heap.size w1.heap.size g l' (w4.drewN (n5 + n6))) := Lib.hid ⟨H4.out.drewN (n5 + n6), below_drewN HE4.out _, hD4⟩
        go_wp2_with fail
        go_loopw [13] (fun j wr => ∃ j0 : Int, -1 ≤ j0 ∧ j0 ≤ (bs.length : Int) + 1 ∧ j = .int .i64 j0 ∧ InAt w w.heap.size w.heap.size w1.heap.size g l' wr) (fun j _ => ((bs.length : Int) + 1 - intOf j).toNat)
        case atStart => exact ⟨-1, by omega, by omega, rfl, HI.out⟩
        case round =>
          obtain ⟨j0, hj1, hj2, rfl, hi, hie, his⟩ := hrel
          have HI2 := Lib.hid hi
          have HE2 := Lib.hid hie
          clear hi hie
          by_cases hj : j0 ≤ (bs.length : Int)
          · obtain ⟨u, hs1, hs2⟩ := status_both j0 l'
            have HS1 := Lib.hid hs1
            have HS2 := Lib.hid hs2
            clear hs1 hs2
            go_wp2_with fail
            refine (HS1.out _ _ HI2.out.gpe).mono ?_
            rintro e w7 ⟨rfl, n7, rfl⟩
            go_wp2_with fail
            refine (HS2.out _ g _ (HI2.out.drewN n7).ref).mono ?_
            rintro e w7 ⟨rfl, rfl⟩
            go_wp2_with fail
            go_roundw
            case rel => exact ⟨j0 + 1, by omega, by omega, by go_num, HI2.out.drewN n7, below_drewN HE2.out n7, his⟩
            case measure => simp [intOf]; omega
          · go_wp2_with fail
            go_roundw
            case rel => exact ⟨k + 1, by omega, by omega, by go_num, l', by omega, HI2.out, HE2.out, his⟩
            case measure => simp [intOf]; omega
      · go_wp2_with fail
        go_ret
        exact ⟨rfl, HBE.out⟩
    · go_wp2_with fail
      go_ret
      exact ⟨rfl, HBE.out⟩


set_option maxRecDepth 100000 in
set_option maxHeartbeats 4000000 in
theorem law_model_zero (la : Option Addr) (n lcap : Nat) (hn : n = 0) (oa : Option Addr) (ocap : Nat) (ops : List OpV) (w : World) (hT : Tab w) (h0 : 0 < w.heap.size) (hO : OpsIn w oa ops) (hlen : ops.length ≤ 9223372036854775807) :
    Calls Tryd.prog 6 #[.slice la n lcap, .slice oa ops.length ocap] w fun e w' => e = .returned (.bool true) ∧ Below w.heap.size w w' := by
  have HT := Lib.hid hT
  have HO := Lib.hid hO
  clear hT hO
  subst hn
  have HA := Lib.hid (bools_own w)
  have hab : w.heap.size < (w.alloc (Obj.cells #[Value.bool true, Value.bool false, Value.bool true, Value.bool false] 4)).heap.size := by rw [size_own]; omega
  have HAB := Lib.hid hab
  clear hab
  go_enter Tryd.func6, Tryd.ntmps6
  go_wp2_with fail
  refine (new_yes w.heap.size 0 [true, false, true, false] 4 _ HA.out HAB.out (by decide) (by decide)).mono ?_
  rintro e w1 ⟨rfl, hg1, hb1⟩
  have HG1 := Lib.hid hg1
  have HB1 := Lib.hid hb1
  clear hg1 hb1
  go_wp2_with fail
  refine (rnew_yes w.heap.size 0 [true, false, true, false] 4 _ (bools_below HA.out HB1.out HAB.out) (Nat.lt_of_lt_of_le HAB.out HB1.out.size) (by decide) (by decide)).mono ?_
  rintro e w2 ⟨rfl, ⟨g, hgt, hr2⟩, hb2⟩
  have HR2 := Lib.hid hr2
  have HB2 := Lib.hid hb2
  have HGT := Lib.hid hgt
  clear hr2 hb2 hgt
  have hT2 : Tab w2 ∧ 0 < w2.heap.size := tab_start HT.out h0 ((Below.refl _ _).alloc (Nat.le_refl _) _) (Nat.le_of_lt HAB.out) HB1.out HB2.out
  go_wp2_with fail
  refine (awake_any _ hT2.1 hT2.2).mono ?_
  rintro e w3 ⟨rfl, hb3⟩
  have hS := both_start ((Below.refl _ _).alloc (Nat.le_refl _) _) (Nat.le_of_lt HAB.out) HG1.out HB1.out HGT.out HR2.out HB2.out hb3
  have HS : Hid (LoopAt w w.heap.size (w.heap.size + 1) w1.heap.size g 4 w3) := Lib.hid ⟨_, List.length_map _, (by rw [← size_own w]; exact hS.1), hS.2, hS.2.size⟩
  clear hb3 hT2 hS
  go_wp2_with fail
  go_loopw [8] (fun i wr => ∃ k : Nat, k ≤ ops.length ∧ k ≤ 90 ∧ i = .int .i64 k ∧ LoopAt w w.heap.size (w.heap.size + 1) w1.heap.size g 4 wr) (fun i _ => ops.length - (intOf i).toNat)
  case atStart => exact ⟨0, by omega, by omega, rfl, HS.out⟩
  case round =>
    obtain ⟨k, hk, hk90, rfl, l, hl, hbo, hbe, hDs⟩ := hrel
    have HBO := Lib.hid hbo
    have HBE := Lib.hid hbe
    clear hbo hbe HS
    by_cases hlt : k < ops.length
    · by_cases hlt90 : k < 90
      · obtain ⟨ob, oo, rfl, hob, hops⟩ : ∃ ab ao, oa = some ⟨ab, ao, none⟩ ∧ ab < w.heap.size ∧ OpsAt w ab ao ops := by
          rcases HO.out with hz | hz
          · omega
          · exact hz
        obtain ⟨c0, c1, c2⟩ := hops k hlt
        rw [← HBE.out.cell (p := ⟨ob, oo + k * 3, none⟩) hob] at c0
        rw [← HBE.out.cell (p := ⟨ob, oo + k * 3 + 1, none⟩) hob] at c1
        rw [← HBE.out.cell (p := ⟨ob, oo + k * 3 + 2, none⟩) hob] at c2
        clear hops
        generalize ops[k] = op at *
        obtain ⟨kd, evn, on⟩ := op
        simp only at c0 c1 c2
        go_wp2_with fail
        refine (apply_int w.heap.size (w.heap.size + 1) w1.heap.size g l kd evn on 4 _ HBO.out (by omega) hDs).mono ?_
        rintro e w4 ⟨rfl, l', hl', hb4, hbe4⟩
        have H4 := Lib.hid hb4
        have HE4 : Hid (Below w.heap.size w w4) := Lib.hid (HBE.out.trans hbe4)
        have HT4 : Hid (Tab w4) := Lib.hid (HT.out.below h0 HE4.out)
        have hD4 : w.heap.size ≤ w4.heap.size := HE4.out.size
        clear hb4 hbe4 c0 c1 c2
        obtain ⟨p, ok, hn1, hn2⟩ := next_both l'
        have HN1 := Lib.hid hn1
        have HN2 := Lib.hid hn2
        obtain ⟨v, hk1, hk2⟩ := wake_both l'
        have HK1 := Lib.hid hk1
        have HK2 := Lib.hid hk2
        clear hn1 hn2 hk1 hk2
        go_wp2_with fail
        refine (HN1.out _ _ H4.out.gpe HT4.out).mono ?_
        rintro e w5 ⟨rfl, n5, rfl⟩
        go_wp2_with fail
        refine (HN2.out _ g _ (H4.out.drewN n5).ref).mono ?_
        rintro e w5 ⟨rfl, rfl⟩
        go_wp2_with fail
        refine (HK1.out _ _ (H4.out.drewN n5).gpe).mono ?_
        rintro e w6 ⟨rfl, n6, rfl⟩
        go_wp2_with fail
        refine (HK2.out _ g _ (H4.out.drewN (n5 + n6)).ref).mono ?_
        rintro e w6 ⟨rfl, rfl⟩
        have HI : Hid (InAt w w.heap.size (w.heap.size + 1) w1.heap.size g l' (w4.drewN (n5 + n6))) := Lib.hid ⟨H4.out.drewN (n5 + n6), below_drewN HE4.out _, hD4⟩
        go_wp2_with fail
        go_loopw [13] (fun j wr => ∃ j0 : Int, -1 ≤ j0 ∧ j0 ≤ 4 + 1 ∧ j = .int .i64 j0 ∧ InAt w w.heap.size (w.heap.size + 1) w1.heap.size g l' wr) (fun j _ => (4 + 1 - intOf j).toNat)
        case atStart => exact ⟨-1, by omega, by omega, rfl, HI.out⟩
        case round =>
          obtain ⟨j0, hj1, hj2, rfl, hi, hie, his⟩ := hrel
          have HI2 := Lib.hid hi
          have HE2 := Lib.hid hie
          clear hi hie
          by_cases hj : j0 ≤ 4
          · obtain ⟨u, hs1, hs2⟩ := status_both j0 l'
            have HS1 := Lib.hid hs1
            have HS2 := Lib.hid hs2
            clear hs1 hs2
            go_wp2_with fail
            refine (HS1.out _ _ HI2.out.gpe).mono ?_
            rintro e w7 ⟨rfl, n7, rfl⟩
            go_wp2_with fail
            refine (HS2.out _ g _ (HI2.out.drewN n7).ref).mono ?_
            rintro e w7 ⟨rfl, rfl⟩
            go_wp2_with fail
            go_roundw
            case rel => exact ⟨j0 + 1, by omega, by omega, by go_num, HI2.out.drewN n7, below_drewN HE2.out n7, his⟩
            case measure => simp [intOf]; omega
          · go_wp2_with fail
            go_roundw
            case rel => exact ⟨k + 1, by omega, by omega, by go_num, l', by omega, HI2.out, HE2.out, his⟩
            case measure => simp [intOf]; omega
      · go_wp2_with fail
        go_ret
        exact ⟨rfl, HBE.out⟩
    · go_wp2_with fail
      go_ret
      exact ⟨rfl, HBE.out⟩

set_option maxRecDepth 100000 in
set_option maxHeartbeats 4000000 in
theorem law_model_wide (la : Option Addr) (n lcap : Nat) (hn : 40 < n) (hn63 : n ≤ 9223372036854775807) (oa : Option Addr) (ocap : Nat) (ops : List OpV) (w : World) (hT : Tab w) (h0 : 0 < w.heap.size) (hO : OpsIn w oa ops) (hlen : ops.length ≤ 9223372036854775807) :
    Calls Tryd.prog 6 #[.slice la n lcap, .slice oa ops.length ocap] w fun e w' => e = .returned (.bool true) ∧ Below w.heap.size w w' := by
  have HT := Lib.hid hT
  have HO := Lib.hid hO
  clear hT hO
  have h1' : ¬ (n : Int) < 1 := by omega
  have h2' : (40 : Int) < n := by omega
  have HA := Lib.hid (bools_own w)
  have hab : w.heap.size < (w.alloc (Obj.cells #[Value.bool true, Value.bool false, Value.bool true, Value.bool false] 4)).heap.size := by rw [size_own]; omega
  have HAB := Lib.hid hab
  clear hab
  go_enter Tryd.func6, Tryd.ntmps6
  go_wp2_with fail
  refine (new_yes w.heap.size 0 [true, false, true, false] 4 _ HA.out HAB.out (by decide) (by decide)).mono ?_
  rintro e w1 ⟨rfl, hg1, hb1⟩
  have HG1 := Lib.hid hg1
  have HB1 := Lib.hid hb1
  clear hg1 hb1
  go_wp2_with fail
  refine (rnew_yes w.heap.size 0 [true, false, true, false] 4 _ (bools_below HA.out HB1.out HAB.out) (Nat.lt_of_lt_of_le HAB.out HB1.out.size) (by decide) (by decide)).mono ?_
  rintro e w2 ⟨rfl, ⟨g, hgt, hr2⟩, hb2⟩
  have HR2 := Lib.hid hr2
  have HB2 := Lib.hid hb2
  have HGT := Lib.hid hgt
  clear hr2 hb2 hgt
  have hT2 : Tab w2 ∧ 0 < w2.heap.size := tab_start HT.out h0 ((Below.refl _ _).alloc (Nat.le_refl _) _) (Nat.le_of_lt HAB.out) HB1.out HB2.out
  go_wp2_with fail
  refine (awake_any _ hT2.1 hT2.2).mono ?_
  rintro e w3 ⟨rfl, hb3⟩
  have hS := both_start ((Below.refl _ _).alloc (Nat.le_refl _) _) (Nat.le_of_lt HAB.out) HG1.out HB1.out HGT.out HR2.out HB2.out hb3
  have HS : Hid (LoopAt w w.heap.size (w.heap.size + 1) w1.heap.size g 4 w3) := Lib.hid ⟨_, List.length_map _, (by rw [← size_own w]; exact hS.1), hS.2, hS.2.size⟩
  clear hb3 hT2 hS
  go_wp2_with fail
  go_loopw [8] (fun i wr => ∃ k : Nat, k ≤ ops.length ∧ k ≤ 90 ∧ i = .int .i64 k ∧ LoopAt w w.heap.size (w.heap.size + 1) w1.heap.size g 4 wr) (fun i _ => ops.length - (intOf i).toNat)
  case atStart => exact ⟨0, by omega, by omega, rfl, HS.out⟩
  case round =>
    obtain ⟨k, hk, hk90, rfl, l, hl, hbo, hbe, hDs⟩ := hrel
    have HBO := Lib.hid hbo
    have HBE := Lib.hid hbe
    clear hbo hbe HS
    by_cases hlt : k < ops.length
    · by_cases hlt90 : k < 90
      · obtain ⟨ob, oo, rfl, hob, hops⟩ : ∃ ab ao, oa = some ⟨ab, ao, none⟩ ∧ ab < w.heap.size ∧ OpsAt w ab ao ops := by
          rcases HO.out with hz | hz
          · omega
          · exact hz
        obtain ⟨c0, c1, c2⟩ := hops k hlt
        rw [← HBE.out.cell (p := ⟨ob, oo + k * 3, none⟩) hob] at c0
        rw [← HBE.out.cell (p := ⟨ob, oo + k * 3 + 1, none⟩) hob] at c1
        rw [← HBE.out.cell (p := ⟨ob, oo + k * 3 + 2, none⟩) hob] at c2
        clear hops
        generalize ops[k] = op at *
        obtain ⟨kd, evn, on⟩ := op
        simp only at c0 c1 c2
        go_wp2_with fail
        refine (apply_int w.heap.size (w.heap.size + 1) w1.heap.size g l kd evn on 4 _ HBO.out (by omega) hDs).mono ?_
        rintro e w4 ⟨rfl, l', hl', hb4, hbe4⟩
        have H4 := Lib.hid hb4
        have HE4 : Hid (Below w.heap.size w w4) := Lib.hid (HBE.out.trans hbe4)
        have HT4 : Hid (Tab w4) := Lib.hid (HT.out.below h0 HE4.out)
        have hD4 : w.heap.size ≤ w4.heap.size := HE4.out.size
        clear hb4 hbe4 c0 c1 c2
        obtain ⟨p, ok, hn1, hn2⟩ := next_both l'
        have HN1 := Lib.hid hn1
        have HN2 := Lib.hid hn2
        obtain ⟨v, hk1, hk2⟩ := wake_both l'
        have HK1 := Lib.hid hk1
        have HK2 := Lib.hid hk2
        clear hn1 hn2 hk1 hk2
        go_wp2_with fail
        refine (HN1.out _ _ H4.out.gpe HT4.out).mono ?_
        rintro e w5 ⟨rfl, n5, rfl⟩
        go_wp2_with fail
        refine (HN2.out _ g _ (H4.out.drewN n5).ref).mono ?_
        rintro e w5 ⟨rfl, rfl⟩
        go_wp2_with fail
        refine (HK1.out _ _ (H4.out.drewN n5).gpe).mono ?_
        rintro e w6 ⟨rfl, n6, rfl⟩
        go_wp2_with fail
        refine (HK2.out _ g _ (H4.out.drewN (n5 + n6)).ref).mono ?_
        rintro e w6 ⟨rfl, rfl⟩
        have HI : Hid (InAt w w.heap.size (w.heap.size + 1) w1.heap.size g l' (w4.drewN (n5 + n6))) := Lib.hid ⟨H4.out.drewN (n5 + n6), below_drewN HE4.out _, hD4⟩
        go_wp2_with fail
        go_loopw [13] (fun j wr => ∃ j0 : Int, -1 ≤ j0 ∧ j0 ≤ 4 + 1 ∧ j = .int .i64 j0 ∧ InAt w w.heap.size (w.heap.size + 1) w1.heap.size g l' wr) (fun j _ => (4 + 1 - intOf j).toNat)
        case atStart => exact ⟨-1, by omega, by omega, rfl, HI.out⟩
        case round =>
          obtain ⟨j0, hj1, hj2, rfl, hi, hie, his⟩ := hrel
          have HI2 := Lib.hid hi
          have HE2 := Lib.hid hie
          clear hi hie
          by_cases hj : j0 ≤ 4
          · obtain ⟨u, hs1, hs2⟩ := status_both j0 l'
            have HS1 := Lib.hid hs1
            have HS2 := Lib.hid hs2
            clear hs1 hs2
            go_wp2_with fail
            refine (HS1.out _ _ HI2.out.gpe).mono ?_
            rintro e w7 ⟨rfl, n7, rfl⟩
            go_wp2_with fail
            refine (HS2.out _ g _ (HI2.out.drewN n7).ref).mono ?_
            rintro e w7 ⟨rfl, rfl⟩
            go_wp2_with fail
            go_roundw
            case rel => exact ⟨j0 + 1, by omega, by omega, by go_num, HI2.out.drewN n7, below_drewN HE2.out n7, his⟩
            case measure => simp [intOf]; omega
          · go_wp2_with fail
            go_roundw
            case rel => exact ⟨k + 1, by omega, by omega, by go_num, l', by omega, HI2.out, HE2.out, his⟩
            case measure => simp [intOf]; omega
      · go_wp2_with fail
        go_ret
        exact ⟨rfl, HBE.out⟩
    · go_wp2_with fail
      go_ret
      exact ⟨rfl, HBE.out⟩

end Go.Proofs.YtdgeocmcmcflfaaDoor
