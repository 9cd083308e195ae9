/- Equal and same: two paths that read alike are the same. -/
import Derived.Test.YtihfhkpglfobfaaPath
import Derived.Deep.QuietTactic
import Derived.BigQuiet
namespace Go.Proofs.Ytihfhkpglfobfaa
open Go.RowKit
attribute [local go_sem] conv1 conv2 ByteArray.mk_append_mk get_mk cut_mk cut_end

/-- The value is a slice that reads as these strings. -/
def StrsAt (w : World) (v : Value) (l : List (List UInt8)) : Prop :=
  ∃ (a : Option Addr) (cap : Nat), v = .slice a l.length cap ∧ l.length ≤ 9223372036854775000 ∧ (l ≠ [] → ∃ b off, a = some ⟨b, off, none⟩ ∧ ∀ k (h : k < l.length), w.cell? ⟨b, off + k, none⟩ = some (strV l[k]))
theorem StrsAt.of_own {w : World} {B : Nat} {v : Value} {l : List (List UInt8)} (h : w.ownsRow B 9 1 v l.length (l.map strV)) (hl : l.length ≤ 9223372036854775000) : StrsAt w v l := by
  obtain ⟨h1, h2⟩ := h
  rcases h2 with ⟨hv, h0⟩ | ⟨g, cap, cur, hv, hb, hg, hn, hm, hs, ht⟩
  · obtain rfl : l = [] := List.eq_nil_of_length_eq_zero h0
    exact ⟨none, 0, hv, hl, fun h => absurd rfl h⟩
  · refine ⟨_, cap, hv, hl, fun _ => ⟨g, 0, rfl, fun k hk => ?_⟩⟩
    rw [cell_of_row w g (0 + k) cur 9 (0, 0) hg]
    have h3 : (l.map strV)[k]? = some (strV l[k]) := by simp [hk]
    rw [← ht, List.getElem?_take, if_pos (by omega)] at h3
    simpa using h3
theorem StrsAt.below {w w' : World} {B : Nat} {v : Value} {l : List (List UInt8)} (h : StrsAt w v l) (hb : Below B w w') (hB : ∀ a n c, v = .slice (some a) n c → l ≠ [] → a.block < B) : StrsAt w' v l := by
  obtain ⟨a, cap, hv, hl, hc⟩ := h
  refine ⟨a, cap, hv, hl, fun hn => ?_⟩
  obtain ⟨b, off, ha, hk⟩ := hc hn
  refine ⟨b, off, ha, fun k h => ?_⟩
  have := hB ⟨b, off, none⟩ _ _ (by rw [hv, ha]) hn
  rw [hb.cell (p := ⟨b, off + k, none⟩) this]
  exact hk k h
theorem StrsAt.lt {w : World} {v : Value} {l : List (List UInt8)} (h : StrsAt w v l) : ∀ a n c, v = .slice (some a) n c → l ≠ [] → a.block < w.heap.size := by
  intro a n c hv hn
  obtain ⟨a', cap, hv', hl, hc⟩ := h
  obtain ⟨b, off, ha, hk⟩ := hc hn
  rw [hv', ha] at hv
  cases hv
  have hp : 0 < l.length := List.length_pos_iff.2 hn
  exact World.block_lt_of_cell? w ⟨b, off + 0, none⟩ (hk 0 hp)

set_option maxHeartbeats 1000000 in
theorem equal_yes (va vb : Value) (l : List (List UInt8)) (w : World) (h1 : StrsAt w va l) (h2 : StrsAt w vb l) :
    Calls Try.prog 40 #[va, vb] w fun e w' => e = .returned (.bool true) ∧ ∃ n, w' = w.drewN n := by
  obtain ⟨a1, p1, rfl, hl, hc1⟩ := h1
  obtain ⟨a2, p2, rfl, _, hc2⟩ := h2
  by_cases hn : l = []
  · subst hn
    clear hc1 hc2
    go_enter Try.func40, Try.ntmps40
    go_wp2_with fail
    refine wp_loop_rounds 1 ?_
    rw [rounds_succ]
    go_wp2_with fail
    go_ret
    exact ⟨rfl, 0, rfl⟩
  · obtain ⟨b1, o1, rfl, k1⟩ := hc1 hn
    obtain ⟨b2, o2, rfl, k2⟩ := hc2 hn
    have K1 := Lib.hid k1
    have K2 := Lib.hid k2
    clear hc1 hc2 k1 k2 hn
    go_enter Try.func40, Try.ntmps40
    go_wp2_with fail
    go_loopw [5] (fun i wr => ∃ k : Nat, i = .int .i64 k ∧ k ≤ l.length ∧ ∃ n, wr = w.drewN n) (fun i _ => l.length - (intOf i).toNat)
    case atStart => exact ⟨0, rfl, Nat.zero_le _, 0, rfl⟩
    case round =>
      obtain ⟨k, rfl, hk, n, rfl⟩ := hrel
      by_cases hlt : k < l.length
      · have c1 := K1.out k hlt
        have c2 := K2.out k hlt
        unfold strV at c1 c2
        generalize l[k] = x at *
        go_wp2_with fail
        go_quiet (fail)
        go_wp2_with fail
        go_roundw
        case rel => exact ⟨k + 1, by go_num, by omega, _, rfl⟩
        case measure => simp [intOf]; omega
      · go_wp2_with fail
        go_ret
        exact ⟨rfl, n, rfl⟩
/-- A path value that reads as these parts. -/
def PathV (w : World) (p : Value) (root : Bool) (up : Int) (l : List (List UInt8)) : Prop := ∃ v, p = .agg #[.bool root, .int .i64 up, v] ∧ StrsAt w v l
set_option maxHeartbeats 1000000 in
theorem same_yes (p q : Value) (root : Bool) (up : Int) (l : List (List UInt8)) (w : World) (h1 : PathV w p root up l) (h2 : PathV w q root up l) :
    Calls Try.prog 28 #[p, q] w fun e w' => e = .returned (.bool true) ∧ Below w.heap.size w w' := by
  obtain ⟨v1, rfl, s1⟩ := h1
  obtain ⟨v2, rfl, s2⟩ := h2
  have hb : ∀ o1 o2, Below w.heap.size w ((w.alloc o1).alloc o2) := fun o1 o2 => ((Below.refl _ _).alloc (Nat.le_refl _) _).alloc (by simp) _
  have t1 : ∀ o1 o2, StrsAt ((w.alloc o1).alloc o2) v1 l := fun o1 o2 => s1.below (hb o1 o2) s1.lt
  have t2 : ∀ o1 o2, StrsAt ((w.alloc o1).alloc o2) v2 l := fun o1 o2 => s2.below (hb o1 o2) s2.lt
  have T1 := Lib.hid t1
  have T2 := Lib.hid t2
  have HB := Lib.hid hb
  obtain ⟨a1, c1, rfl, hl, _⟩ := s1
  obtain ⟨a2, c2, rfl, _, _⟩ := s2
  clear t1 t2 hb
  go_enter Try.func28, Try.ntmps28
  go_wp2_with fail
  refine (equal_yes _ _ l _ (T1.out _ _) (T2.out _ _)).mono ?_
  rintro e w' ⟨rfl, n, rfl⟩
  go_wp2_with fail
  go_ret
  exact ⟨rfl, below_drewN (HB.out _ _) n⟩
end Go.Proofs.Ytihfhkpglfobfaa
