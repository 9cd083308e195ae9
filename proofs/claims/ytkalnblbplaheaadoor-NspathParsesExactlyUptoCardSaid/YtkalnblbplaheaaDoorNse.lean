/- Equal, same: the walks. -/
import Derived.Test.YtkalnblbplaheaaDoorNsd
namespace Go.Proofs.YtkalnblbplaheaaDoor
open Go.RowKit
set_option linter.unusedVariables false
attribute [local go_sem] ByteArray.mk_append_mk bs_get bs_cut bs_end

set_option maxHeartbeats 1000000 in
theorem equal_yes (va vb : Value) (l : List (List UInt8)) (w : World) (h1 : StrsAt w va l) (h2 : StrsAt w vb l) :
    Calls Tryd.prog 44 #[va, vb] w fun e w' => e = .returned (.bool true) ∧ ∃ n, w' = w.drewN n := by
  obtain ⟨a1, p1, rfl, hl, _, hc1⟩ := h1
  obtain ⟨a2, p2, rfl, _, _, hc2⟩ := h2
  by_cases hn : l = []
  · subst hn
    clear hc1 hc2
    go_enter Tryd.func44, Tryd.ntmps44
    go_wp2_with fail
    refine wp_loop_rounds 1 ?_
    rw [rounds_succ]
    go_wp2_with fail
    go_ret
    exact ⟨rfl, 0, rfl⟩
  · obtain ⟨b1, o1, rfl, k1⟩ := hc1 hn
    obtain ⟨b2, o2, rfl, k2⟩ := hc2 hn
    have K1 := Lib.hid k1
    have K2 := Lib.hid k2
    clear hc1 hc2 k1 k2 hn
    go_enter Tryd.func44, Tryd.ntmps44
    go_wp2_with fail
    go_loopw [5] (fun i wr => ∃ k : Nat, i = .int .i64 k ∧ k ≤ l.length ∧ ∃ n, wr = w.drewN n) (fun i _ => l.length - (intOf i).toNat)
    case atStart => exact ⟨0, rfl, Nat.zero_le _, 0, rfl⟩
    case round =>
      obtain ⟨k, rfl, hk, n, rfl⟩ := hrel
      by_cases hlt : k < l.length
      · have c1 := K1.out k hlt
        have c2 := K2.out k hlt
        unfold strV at c1 c2
        generalize l[k] = x at *
        go_wp2_with fail
        go_quiet (fail)
        go_wp2_with fail
        go_roundw
        case rel => exact ⟨k + 1, by go_num, by omega, _, rfl⟩
        case measure => simp [intOf]; omega
      · go_wp2_with fail
        go_ret
        exact ⟨rfl, n, rfl⟩
/-- The first place where two lists of one length part. -/
theorem part_at : ∀ (l1 l2 : List (List UInt8)), l1.length = l2.length → l1 ≠ l2 → ∃ m, ∃ (h1 : m < l1.length) (h2 : m < l2.length), l1[m] ≠ l2[m] ∧ ∀ k (a1 : k < l1.length) (a2 : k < l2.length), k < m → l1[k] = l2[k]
  | [], [], _, h => absurd rfl h
  | [], _ :: _, h, _ => by cases h
  | _ :: _, [], h, _ => by cases h
  | x :: l1, y :: l2, h, hne => by
    by_cases hxy : x = y
    · subst hxy
      obtain ⟨m, h1, h2, h3, h4⟩ := part_at l1 l2 (by simpa using h) (fun e => hne (by rw [e]))
      refine ⟨m + 1, by simpa using h1, by simpa using h2, by simpa using h3, fun k a1 a2 hk => ?_⟩
      cases k with
      | zero => rfl
      | succ k => simpa using h4 k (by simpa using a1) (by simpa using a2) (by omega)
    · exact ⟨0, by simp, by simp, by simpa using hxy, fun k _ _ hk => absurd hk (by omega)⟩
set_option maxHeartbeats 1000000 in
theorem equal_no (va vb : Value) (l1 l2 : List (List UInt8)) (w : World) (h1 : StrsAt w va l1) (h2 : StrsAt w vb l2) (hne : l1 ≠ l2) :
    Calls Tryd.prog 44 #[va, vb] w fun e w' => e = .returned (.bool false) ∧ ∃ n, w' = w.drewN n := by
  obtain ⟨a1, p1, rfl, hl1, _, hc1⟩ := h1
  obtain ⟨a2, p2, rfl, hl2, _, hc2⟩ := h2
  by_cases hlen : l1.length = l2.length
  · obtain ⟨m, m1, m2, h3, h4⟩ := part_at l1 l2 hlen hne
    have hn1 : l1 ≠ [] := by rintro rfl; simp at m1
    have hn2 : l2 ≠ [] := by rintro rfl; simp at m2
    obtain ⟨b1, o1, rfl, k1⟩ := hc1 hn1
    obtain ⟨b2, o2, rfl, k2⟩ := hc2 hn2
    have K1 := Lib.hid k1
    have K2 := Lib.hid k2
    have H3 := Lib.hid h3
    have H4 := Lib.hid h4
    have HL := Lib.hid hlen
    have hll : ((l1.length : Int) != (l2.length : Int)) = false := by simp [hlen]
    clear hc1 hc2 k1 k2 hn1 hn2 h3 h4 hne hlen
    go_enter Tryd.func44, Tryd.ntmps44
    go_wp2_with fail
    go_loopw [5] (fun i wr => ∃ k : Nat, i = .int .i64 k ∧ k ≤ m ∧ ∃ n, wr = w.drewN n) (fun i _ => m - (intOf i).toNat)
    case atStart => exact ⟨0, rfl, Nat.zero_le _, 0, rfl⟩
    case round =>
      obtain ⟨k, rfl, hk, n, rfl⟩ := hrel
      have c1 := K1.out k (by omega)
      have c2 := K2.out k (by omega)
      unfold strV at c1 c2
      have kl1 : k < l1.length := by omega
      have kl2 : k < l2.length := by omega
      by_cases hlt : k < m
      · have e := H4.out k (by omega) (by omega) hlt
        rw [← e] at c2
        clear e
        generalize l1[k] = x at *
        go_wp2_with fail
        go_quiet (fail)
        go_wp2_with fail
        go_roundw
        case rel => exact ⟨k + 1, by go_num, by omega, _, rfl⟩
        case measure => simp [intOf]; omega
      · obtain rfl : k = m := by omega
        have e := H3.out
        obtain ⟨x, hx⟩ : ∃ x, l1[k] = x := ⟨_, rfl⟩
        obtain ⟨y, hy⟩ : ∃ y, l2[k] = y := ⟨_, rfl⟩
        rw [hx] at c1 e
        rw [hy] at c2 e
        have hxy : (x == y) = false := by simpa using e
        have hxy2 : (x != y) = true := by simpa using e
        clear e hx hy
        go_wp2_with fail
        go_quiet (fail)
        go_wp2_with fail
        go_ret
        exact ⟨rfl, _, World.drewN_drewN _ _ _⟩
  · have hll : ((l1.length : Int) != (l2.length : Int)) = true := by rw [bne_iff_ne]; omega
    clear hne hc1 hc2
    have hl3 : (l1.length == l2.length) = false := by simpa using hlen
    have hl4 : (l1.length != l2.length) = true := by simpa using hlen
    clear hlen
    go_enter Tryd.func44, Tryd.ntmps44
    go_wp2_with fail
    go_ret
    exact ⟨rfl, 0, rfl⟩
theorem equal_any (va vb : Value) (l1 l2 : List (List UInt8)) (w : World) (h1 : StrsAt w va l1) (h2 : StrsAt w vb l2) :
    Calls Tryd.prog 44 #[va, vb] w fun e w' => e = .returned (.bool (decide (l1 = l2))) ∧ ∃ n, w' = w.drewN n := by
  by_cases h : l1 = l2
  · subst h; simpa using equal_yes va vb l1 w h1 h2
  · rw [decide_eq_false h]; exact equal_no va vb l1 l2 w h1 h2 h
/-- Are the two paths the same. -/
def sameB (r1 : Bool) (u1 : Int) (l1 : List (List UInt8)) (r2 : Bool) (u2 : Int) (l2 : List (List UInt8)) : Bool := (r1 == r2) && (u1 == u2) && decide (l1 = l2)
set_option maxHeartbeats 1000000 in
theorem same_any (p q : Value) (r1 r2 : Bool) (u1 u2 : Int) (l1 l2 : List (List UInt8)) (w : World) (hp : PathV w p r1 u1 l1) (hq : PathV w q r2 u2 l2) :
    Calls Tryd.prog 18 #[p, q] w fun e w' => e = .returned (.bool (sameB r1 u1 l1 r2 u2 l2)) ∧ Below w.heap.size w w' := by
  obtain ⟨v1, rfl, s1⟩ := hp
  obtain ⟨v2, rfl, s2⟩ := hq
  have hb : ∀ o1 o2, Below w.heap.size w ((w.alloc o1).alloc o2) := fun o1 o2 => ((Below.refl _ _).alloc (Nat.le_refl _) _).alloc (by simp) _
  have T1 := Lib.hid (fun o1 o2 => s1.below (hb o1 o2))
  have T2 := Lib.hid (fun o1 o2 => s2.below (hb o1 o2))
  have HB := Lib.hid hb
  obtain ⟨a1, c1, rfl, _⟩ := s1.form
  obtain ⟨a2, c2, rfl, _⟩ := s2.form
  clear hb s1 s2
  cases hr : (r1 == r2)
  · have hr2 : r1 = !r2 := by cases r1 <;> cases r2 <;> simp_all
    subst hr2
    cases r2
    all_goals
      go_enter Tryd.func18, Tryd.ntmps18
      go_wp2_with fail
      go_ret
      exact ⟨rfl, HB.out _ _⟩
  · have hr2 : r1 = r2 := by simpa using hr
    subst hr2
    clear hr
    cases hu : (u1 == u2)
    · have HS : Hid (sameB r1 u1 l1 r1 u2 l2 = false) := Lib.hid (by unfold sameB; rw [hu]; simp)
      have hrr : (r1 == r1) = true := by simp
      go_enter Tryd.func18, Tryd.ntmps18
      go_wp2_with fail
      go_ret
      exact ⟨by rw [HS.out]; rfl, HB.out _ _⟩
    · have hu2 : u1 = u2 := by simpa using hu
      subst hu2
      clear hu
      have HS : Hid (sameB r1 u1 l1 r1 u1 l2 = decide (l1 = l2)) := Lib.hid (by unfold sameB; simp)
      obtain ⟨b, hb⟩ : ∃ b, decide (l1 = l2) = b := ⟨_, rfl⟩
      rw [hb] at HS
      have HD := Lib.hid hb
      clear hb
      go_enter Tryd.func18, Tryd.ntmps18
      go_wp2_with fail
      refine (equal_any _ _ l1 l2 _ (T1.out _ _) (T2.out _ _)).mono ?_
      rintro e w' ⟨rfl, n, rfl⟩
      rw [HD.out]
      go_wp2_with fail
      go_ret
      exact ⟨by rw [HS.out]; rfl, below_drewN (HB.out _ _) n⟩
end Go.Proofs.YtkalnblbplaheaaDoor
