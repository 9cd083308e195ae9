/- Format, FormatPath: the walks. -/
import Derived.Test.YtkalnblbplaheaaDoorNse
namespace Go.Proofs.YtkalnblbplaheaaDoor
open Go.RowKit
set_option linter.unusedVariables false
attribute [local go_sem] ByteArray.mk_append_mk bs_get bs_cut bs_end

theorem BoxAt.strs {w wr : World} {root : Bool} {up : Int} {v : Value} {l : List (List UInt8)} (h : BoxAt w wr root up v l) : StrsAt wr v l := h.2.1
/-- The segments with dots between. -/
def joinB (l : List (List UInt8)) : List UInt8 := Lib.join l [46]
theorem joinB_nil : joinB [] = [] := rfl
theorem joinB_one (x : List UInt8) : joinB [x] = x := by simp [joinB, Lib.join, List.intercalate]
theorem joinB_cons (x y : List UInt8) (r : List (List UInt8)) : joinB (x :: y :: r) = x ++ 46 :: joinB (y :: r) := by
  simp [joinB, Lib.join, List.intercalate]
theorem joinB_snoc : ∀ (l : List (List UInt8)) (x : List UInt8), l ≠ [] → joinB (l ++ [x]) = joinB l ++ 46 :: x
  | [], _, h => absurd rfl h
  | [y], x, _ => by rw [List.singleton_append, joinB_cons, joinB_one, joinB_one]
  | y :: z :: r, x, _ => by
    have := joinB_snoc (z :: r) x (by simp)
    rw [List.cons_append, List.cons_append, joinB_cons, joinB_cons]
    rw [List.cons_append] at this
    rw [this]; simp
theorem joinB_len : ∀ (l : List (List UInt8)), (∀ x ∈ l, x.length ≤ 4) → (joinB l).length ≤ 5 * l.length
  | [], _ => by simp [joinB_nil]
  | [x], h => by rw [joinB_one]; have := h x (by simp); simp; omega
  | x :: y :: r, h => by
    rw [joinB_cons]
    have := joinB_len (y :: r) (fun z hz => h z (by simp [hz]))
    have := h x (by simp)
    simp only [List.length_append, List.length_cons] at *
    omega
/-- The text of a valid path. -/
def fmtB (root : Bool) (up : Int) (l : List (List UInt8)) : List UInt8 := (if root then [92] else List.replicate up.toNat 94) ++ joinB l
/-- The format of a path. -/
def fmtV (root : Bool) (up : Int) (l : List (List UInt8)) : List UInt8 := if validB root up l then fmtB root up l else []
theorem repeatL_rep (c : UInt8) : ∀ n, Lib.repeatL [c] n = List.replicate n c
  | 0 => rfl
  | n + 1 => by rw [Lib.repeatL, repeatL_rep c n]; rfl
theorem validB_segs {root : Bool} {up : Int} {l : List (List UInt8)} (h : validB root up l = true) : ∀ x ∈ l, segB x = true := by
  unfold validB at h
  simp only [Bool.and_eq_true, List.all_eq_true] at h
  exact h.2
theorem validB_is {root : Bool} {up : Int} {l : List (List UInt8)} (h : validB root up l = true) : 0 ≤ up ∧ up ≤ 32 ∧ (root = true → up = 0) ∧ (l.length : Int) ≤ 32 - up ∧ (root = true ∨ 0 < up ∨ 0 < l.length) := by
  unfold validB at h
  simp only [Bool.and_eq_true] at h
  exact of_decide_eq_true h.1
theorem joinB_valid {root : Bool} {up : Int} {l : List (List UInt8)} (h : validB root up l = true) : (joinB l).length ≤ 160 := by
  have := joinB_len l (fun x hx => (segB_size (validB_segs h x hx)).2)
  have := validB_is h
  omega
theorem repeat_caret (n : Nat) (w : World) (h : n ≤ 1000) : Calls Tryd.prog 42 #[.string ⟨#[94]⟩, .int .i64 n] w fun e w' => e = .returned (.string ⟨(List.replicate n (94 : UInt8)).toArray⟩) ∧ Below w.heap.size w w' := by
  refine (Tryd.strings_Repeat ⟨#[94]⟩ n w (by omega) (by show 1 * n ≤ _; omega)).mono ?_
  rintro e w' ⟨he, hb⟩
  refine ⟨?_, hb⟩
  rw [he]
  show Ending.returned (.string ⟨(Lib.repeatL [94] n).toArray⟩) = _
  rw [repeatL_rep]
theorem join_strs (v : Value) (l : List (List UInt8)) (w : World) (h : StrsAt w v l) (hl : l.length ≤ 1000000) (hx : (joinB l).length ≤ 1000000) : Calls Tryd.prog 43 #[v, .string ⟨#[46]⟩] w fun e w' => e = .returned (.string ⟨(joinB l).toArray⟩) ∧ Below w.heap.size w w' := by
  have hlt := h.lt
  obtain ⟨a, cap, rfl, hl2, hz, hc⟩ := h
  by_cases hn : l = []
  · subst hn
    exact (Tryd.strings_Join_none a cap _ w).mono fun e w' ⟨he, hw⟩ => ⟨he, hw ▸ Below.refl _ _⟩
  · obtain ⟨b, off, rfl, hk⟩ := hc hn
    have hm : ((l.map fun x => (⟨x.toArray⟩ : ByteArray)).map (·.data.toList)) = l := by
      rw [List.map_map]
      exact (List.map_congr_left (fun x _ => rfl)).trans (List.map_id l)
    have hj : Lib.join ((l.map fun x => (⟨x.toArray⟩ : ByteArray)).map (·.data.toList)) (ByteArray.mk #[46]).data.toList = joinB l := by rw [hm]; rfl
    have h0 := Tryd.strings_Join b off cap (l.map fun x => (⟨x.toArray⟩ : ByteArray)) ⟨#[46]⟩ w ?_ (hlt _ _ _ rfl hn) (by rw [List.length_map]; omega) (by rw [List.length_map]; omega) (by rw [hj]; omega)
    · rw [hj, List.length_map] at h0
      exact h0
    · intro j x hj
      rw [List.getElem?_map] at hj
      have hj2 : j < l.length := by
        rcases Nat.lt_or_ge j l.length with h' | h'
        · exact h'
        · rw [List.getElem?_eq_none h'] at hj; cases hj
      rw [List.getElem?_eq_getElem hj2] at hj
      injection hj with hj
      subst hj
      exact hk j hj2
set_option maxHeartbeats 1000000 in
theorem format_any (p : Value) (root : Bool) (up : Int) (l : List (List UInt8)) (w : World) (hp : PathV w p root up l) (hx : ∀ x ∈ l, x.length ≤ 9223372036854775000) :
    Calls Tryd.prog 17 #[p] w fun e w' => e = .returned (.string ⟨(fmtV root up l).toArray⟩) ∧ Below w.heap.size w w' := by
  obtain ⟨v, rfl, hs⟩ := hp
  have HA := Lib.hid (BoxAt.start (root := root) (up := up) hs)
  have HX := Lib.hid hx
  clear hx
  obtain ⟨a, cap, rfl, hcap⟩ := hs.form
  clear hs
  obtain ⟨p0, p1, p2⟩ := HA.out.cells
  have HN := Lib.hid (nsValid_any _ root up l _ HA.out.pathV HX.out)
  cases hv : validB root up l
  · have HV := Lib.hid hv
    clear hv
    go_enter Tryd.func17, Tryd.ntmps17
    go_wp2_with fail
    ((with_reducible refine HN.out.mono ?_))
    rintro e w1 ⟨rfl, hb⟩
    have HB := Lib.hid (HA.out.below hb)
    clear hb HN HA p0 p1 p2
    rw [HV.out]
    go_wp2_with fail
    go_ret
    exact ⟨by unfold fmtV; rw [HV.out]; rfl, HB.out.2.2⟩
  · have HV := Lib.hid hv
    obtain ⟨v1, v2, v3, v4, v5⟩ := validB_is hv
    obtain ⟨n, rfl⟩ : ∃ n : Nat, up = n := ⟨up.toNat, by omega⟩
    have HF : Hid (fmtV root n l = (if root then [92] else List.replicate n 94) ++ joinB l) := Lib.hid (by unfold fmtV fmtB; rw [if_pos hv]; rfl)
    have hj := joinB_valid hv
    have hll : l.length ≤ 32 := by omega
    clear hv v3 v4 v5
    go_enter Tryd.func17, Tryd.ntmps17
    go_wp2_with fail
    ((with_reducible refine HN.out.mono ?_))
    rintro e w1 ⟨rfl, hb⟩
    have HB := Lib.hid (HA.out.below hb)
    clear hb HN HA p0 p1 p2
    obtain ⟨p0, p1, p2⟩ := HB.out.cells
    rw [HV.out]
    go_wp2_with fail
    ((with_reducible refine (repeat_caret n _ (by omega)).mono ?_))
    rintro e w2 ⟨rfl, hb⟩
    have HC := Lib.hid (HB.out.below hb)
    clear hb HB p0 p1 p2
    obtain ⟨p0, p1, p2⟩ := HC.out.cells
    cases root
    all_goals
      go_wp2_with fail
      ((with_reducible refine (join_strs _ l _ HC.out.strs (by omega) (by omega)).mono ?_))
      rintro e w3 ⟨rfl, hb⟩
      have HD := Lib.hid (HC.out.below hb)
      clear hb HC p0 p1 p2
      go_wp2_with fail
      go_ret
      exact ⟨by rw [HF.out]; rfl, HD.out.2.2⟩
theorem joinB_take (l : List (List UInt8)) (k : Nat) (hk : k < l.length) : joinB (l.take (k + 1)) = (if 0 < k then joinB (l.take k) ++ [46] else joinB (l.take k)) ++ l[k] := by
  rw [← List.take_append_getElem hk]
  by_cases h : 0 < k
  · rw [if_pos h, joinB_snoc _ _ (by intro e; have := congrArg List.length e; rw [List.length_take] at this; simp only [List.length_nil] at this; omega)]
    simp
  · obtain rfl : k = 0 := by omega
    simp [joinB_one, joinB_nil]
set_option maxHeartbeats 1000000 in
theorem formatPath_any (p : Value) (root : Bool) (up : Int) (l : List (List UInt8)) (w : World) (hp : PathV w p root up l) (hx : ∀ x ∈ l, x.length ≤ 9223372036854775000) :
    Calls Tryd.prog 35 #[p] w fun e w' => e = .returned (.string ⟨(fmtV root up l).toArray⟩) ∧ Below w.heap.size w w' := by
  obtain ⟨v, rfl, hs⟩ := hp
  have HA := Lib.hid (BoxAt.start (root := root) (up := up) hs)
  have HX := Lib.hid hx
  clear hx
  obtain ⟨a, cap, rfl, hcap⟩ := hs.form
  clear hs
  obtain ⟨p0, p1, p2⟩ := HA.out.cells
  have HN := Lib.hid (validPath_any _ root up l _ HA.out.pathV HX.out)
  cases hv : validB root up l
  · have HV := Lib.hid hv
    clear hv
    go_enter Tryd.func35, Tryd.ntmps35
    go_wp2_with fail
    ((with_reducible refine HN.out.mono ?_))
    rintro e w1 ⟨rfl, hb⟩
    have HB := Lib.hid (HA.out.below hb)
    clear hb HN HA p0 p1 p2
    rw [HV.out]
    go_wp2_with fail
    go_ret
    exact ⟨by unfold fmtV; rw [HV.out]; rfl, HB.out.2.2⟩
  · have HV := Lib.hid hv
    obtain ⟨v1, v2, v3, v4, v5⟩ := validB_is hv
    obtain ⟨n, rfl⟩ : ∃ n : Nat, up = n := ⟨up.toNat, by omega⟩
    have HF : Hid (fmtV root n l = (if root then [92] else List.replicate n 94) ++ joinB l) := Lib.hid (by unfold fmtV fmtB; rw [if_pos hv]; rfl)
    have hll : l.length ≤ 32 := by omega
    have HR := Lib.hid v3
    clear hv v3 v4 v5
    go_enter Tryd.func35, Tryd.ntmps35
    go_wp2_with fail
    ((with_reducible refine HN.out.mono ?_))
    rintro e w1 ⟨rfl, hb⟩
    have HB := Lib.hid (HA.out.below hb)
    clear hb HN HA p0 p1 p2
    obtain ⟨p0, p1, p2⟩ := HB.out.cells
    rw [HV.out]
    go_upto_if 10 with fail
    go_cut [3] (fun s wx => s = .string ⟨(if root then [92] else [] : List UInt8).toArray⟩ ∧ w1 = wx)
    case first =>
      cases root
      all_goals
        go_wp2_with fail
        go_meet
        exact ⟨rfl, rfl⟩
    case rest =>
      obtain ⟨rfl, rfl⟩ := hcut
      generalize hpre : (if root then [92] else [] : List UInt8) = pre
      have HP : Hid ((if root then [92] else List.replicate n 94) = pre ++ List.replicate n (94 : UInt8)) := Lib.hid (by
        subst hpre
        cases root with
        | true => have := HR.out rfl; obtain rfl : n = 0 := by omega
                  rfl
        | false => rfl)
      have hpl : pre.length ≤ 1 := by subst hpre; cases root <;> simp
      clear hpre
      go_wp2_with fail
      go_loop [3, 4] (fun s i => ∃ k : Nat, i = .int .i64 k ∧ k ≤ n ∧ s = .string ⟨(pre ++ List.replicate k 94).toArray⟩) (fun s i => n - (intOf i).toNat)
      case atStart => exact ⟨0, rfl, Nat.zero_le _, by simp⟩
      case round =>
        obtain ⟨k, rfl, hk, rfl⟩ := hrel
        by_cases hlt : k < n
        · have hlt' : (k : Int) < n := by omega
          go_wp2_with fail
          go_round
          case rel => exact ⟨k + 1, by go_num, by omega, by simp [List.replicate_succ']⟩
          case measure => simp [intOf]; omega
        · have hlt' : ¬ (k : Int) < n := by omega
          obtain rfl : k = n := by omega
          go_wp2_with fail
          generalize hpre2 : pre ++ List.replicate k (94 : UInt8) = pre2
          rw [hpre2] at HP
          have hpl2 : pre2.length ≤ 33 := by rw [← hpre2, List.length_append, List.length_replicate]; omega
          clear hpre2
          go_loop [3, 5] (fun s i => ∃ j : Nat, i = .int .i64 j ∧ j ≤ l.length ∧ s = .string ⟨(pre2 ++ joinB (l.take j)).toArray⟩) (fun s i => l.length - (intOf i).toNat)
          case atStart => exact ⟨0, rfl, Nat.zero_le _, by simp [joinB_nil]⟩
          case round =>
            obtain ⟨j, rfl, hj, rfl⟩ := hrel
            by_cases hlt : j < l.length
            · obtain ⟨b, off, rfl, hcell⟩ := cell_at HB.out.2.1 j hlt
              have HT := Lib.hid (joinB_take l j hlt)
              have hxl : l[j].length ≤ 4 := (segB_size (validB_segs HV.out _ (List.getElem_mem hlt))).2
              have hsl : (joinB (l.take j)).length ≤ 160 := by
                have := joinB_len (l.take j) (fun x hx => (segB_size (validB_segs HV.out x (List.mem_of_mem_take hx))).2)
                rw [List.length_take] at this
                omega
              generalize l[j] = x at *
              generalize joinB (l.take j) = s0 at *
              by_cases h0 : 0 < j
              · have h0' : (0 : Int) < j := by omega
                go_wp2_with fail
                go_round
                case rel => exact ⟨j + 1, by go_num, by omega, by rw [HT.out, if_pos h0]; simp⟩
                case measure => simp [intOf]; omega
              · have h0' : ¬ (0 : Int) < j := by omega
                go_wp2_with fail
                go_round
                case rel => exact ⟨j + 1, by go_num, by omega, by rw [HT.out, if_neg h0]⟩
                case measure => simp [intOf]; omega
            · have HE : Hid (joinB (l.take j) = joinB l) := Lib.hid (by rw [List.take_of_length_le (by omega)])
              generalize joinB (l.take j) = s0 at *
              go_wp2_with fail
              go_ret
              exact ⟨by rw [HF.out, HP.out, HE.out]; rfl, HB.out.2.2⟩
end Go.Proofs.YtkalnblbplaheaaDoor
