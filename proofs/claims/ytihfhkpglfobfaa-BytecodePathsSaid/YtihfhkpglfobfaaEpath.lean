/- The reference's Path: the walk. -/
import Derived.Test.YtihfhkpglfobfaaSame
import Derived.Test.YtihfhkpglfobfaaBs
namespace Go.Proofs.Ytihfhkpglfobfaa
open Go.RowKit
attribute [local go_sem] conv1 conv2 ByteArray.mk_append_mk get_mk cut_mk cut_end

def cntBytes (n : Nat) : List UInt8 := if n = 0 then [0] else if n = 2 then [46] else if 2 < n then 47 :: little n 1 else []
def pad4 (x : List UInt8) : List UInt8 := x ++ List.take (4 - x.length) [0, 0, 0]
def headBytes (root : Bool) : List UInt8 := if root = true then [92] else []
/-- The encoding of a path. -/
def encPath (root : Bool) (up : Nat) (l : List (List UInt8)) : List UInt8 := headBytes root ++ List.replicate up 94 ++ cntBytes l.length ++ l.flatMap pad4
/-- The parameter's block. -/
def BoxAt (w wr : World) (root : Bool) (up : Int) (v : Value) (l : List (List UInt8)) : Prop :=
  wr.heap[w.heap.size]? = some (.cells #[.bool root, .int .i64 up, v] 45 (0, 0)) ∧ StrsAt wr v l ∧ Below w.heap.size w wr
theorem BoxAt.start {w : World} {root : Bool} {up : Int} {v : Value} {l : List (List UInt8)} (h : StrsAt w v l) : BoxAt w (w.alloc (.cells #[.bool root, .int .i64 up, v] 45)) root up v l :=
  ⟨heap_alloc_new w _, h.below ((Below.refl _ _).alloc (Nat.le_refl _) _) h.lt, (Below.refl _ _).alloc (Nat.le_refl _) _⟩
theorem BoxAt.below {w wr w2 : World} {root : Bool} {up : Int} {v : Value} {l : List (List UInt8)} (h : BoxAt w wr root up v l) (hb : Below wr.heap.size wr w2) : BoxAt w w2 root up v l :=
  ⟨blk_below h.1 hb, h.2.1.below hb h.2.1.lt, bel_then h.2.2 (Nat.le_refl _) hb⟩
theorem BoxAt.drewN {w wr : World} {root : Bool} {up : Int} {v : Value} {l : List (List UInt8)} (h : BoxAt w wr root up v l) (n : Nat) : BoxAt w (wr.drewN n) root up v l :=
  h.below (below_drewN (Below.refl _ _) n)
theorem flat_snoc (l : List (List UInt8)) (k : Nat) (h : k < l.length) : (l.take (k + 1)).flatMap pad4 = (l.take k).flatMap pad4 ++ pad4 l[k] := by
  rw [List.take_succ_eq_append_getElem h, List.flatMap_append]; simp
theorem rep_snoc (k : Nat) (p : List UInt8) : p ++ List.replicate (k + 1) (94 : UInt8) = (p ++ List.replicate k 94) ++ [94] := by
  rw [List.append_assoc, ← List.replicate_succ']
def EPost (w : World) (x : List UInt8) (e : Ending) (w' : World) : Prop := ∃ s : List UInt8, Hid (s = x) ∧ s.length ≤ 1200 ∧ e = .returned (.string ⟨s.toArray⟩) ∧ Hid (Below w.heap.size w w')
set_option maxHeartbeats 4000000 in
theorem epath_any (p : Value) (root : Bool) (up : Nat) (l : List (List UInt8)) (w : World) (hp : PathV w p root up l) (hup : up ≤ 32) (hl : l.length ≤ 255) (hx : ∀ x ∈ l, 1 ≤ x.length ∧ x.length ≤ 4) :
    Calls Try.prog 23 #[p] w (EPost w (encPath root up l)) := by
  obtain ⟨v, rfl, hs⟩ := hp
  have HB : Hid (∀ wx, wx = w.alloc (.cells #[.bool root, .int .i64 up, v] 45) → BoxAt w wx root up v l) := Lib.hid (by rintro _ rfl; exact BoxAt.start hs)
  obtain ⟨a, cap, rfl, _, _⟩ := hs
  go_enter Try.func23, Try.ntmps23
  go_upto_if 8 with fail
  go_cut [3] (fun s wx => s = .string ⟨(headBytes root).toArray⟩ ∧ Hid (BoxAt w wx root up (.slice a l.length cap) l))
  case first =>
    cases root
    · go_wp2_with fail
      go_meet
      exact ⟨rfl, Lib.hid (HB.out _ rfl)⟩
    · go_wp2_with fail
      go_meet
      exact ⟨rfl, Lib.hid (HB.out _ rfl)⟩
  case rest =>
    obtain ⟨rfl, HX⟩ := hcut
    obtain ⟨w1, rfl⟩ : ∃ x : World, x = wc := ⟨_, rfl⟩
    clear HB
    have hhl : (headBytes root).length ≤ 1 := by cases root <;> decide
    have HE : Hid (encPath root up l = headBytes root ++ List.replicate up 94 ++ cntBytes l.length ++ l.flatMap pad4) := Lib.hid rfl
    generalize headBytes root = hd at *
    obtain ⟨p0, p1, p2⟩ := cells3 HX.out.1
    go_upto_block 0 with fail
    go_cut [3] (fun s wx => ∃ x : List UInt8, s = .string ⟨x.toArray⟩ ∧ x.length ≤ 40 ∧ Hid (x = hd ++ List.replicate up 94) ∧ w1 = wx)
    case first =>
      go_wp2_with fail
      go_loop [3, 4] (fun s i => ∃ (k : Nat) (x : List UInt8), i = .int .i64 k ∧ k ≤ up ∧ s = .string ⟨x.toArray⟩ ∧ x.length ≤ k + 1 ∧ Hid (x = hd ++ List.replicate k 94)) (fun _ i => up - (intOf i).toNat)
      case atStart => exact ⟨0, hd, rfl, Nat.zero_le _, rfl, by omega, Lib.hid (by simp)⟩
      case round =>
        obtain ⟨k, x, rfl, hk, rfl, hxl, HXX⟩ := hrel
        by_cases hlt : k < up
        · have hlt' : (k : Int) < up := by omega
          go_wp2_with fail
          go_round
          case rel => exact ⟨k + 1, x ++ [94], by go_num, by omega, rfl, by simp; omega, Lib.hid (by rw [rep_snoc, ← HXX.out])⟩
          case measure => simp [intOf]; omega
        · have hlt' : ¬ (k : Int) < up := by omega
          obtain rfl : k = up := by omega
          go_wp2_with fail
          go_meet
          exact ⟨x, rfl, by omega, HXX, rfl⟩
    case rest =>
      obtain ⟨x, rfl, hxl, HXX, rfl⟩ := hcut
      clear hhl
      go_upto_block 2 with fail
      go_cut [3] (fun s wx => ∃ y : List UInt8, s = .string ⟨y.toArray⟩ ∧ y.length ≤ 60 ∧ Hid (y = hd ++ List.replicate up 94 ++ cntBytes l.length) ∧ Hid (BoxAt w wx root up (.slice a l.length cap) l))
      case first =>
        by_cases h0 : l.length = 0
        · have h0' : ((l.length : Int) == 0) = true := by rw [beq_iff_eq]; omega
          have HC : Hid (cntBytes l.length = [0]) := Lib.hid (if_pos h0)
          clear h0
          go_wp2_with fail
          go_meet
          exact ⟨x ++ [0], rfl, by simp; omega, Lib.hid (by rw [HC.out, ← HXX.out]), HX⟩
        · have h0' : ((l.length : Int) == 0) = false := by rw [beq_eq_false_iff_ne]; omega
          by_cases h2 : l.length = 2
          · have h2' : ((l.length : Int) == 2) = true := by rw [beq_iff_eq]; omega
            have HC : Hid (cntBytes l.length = [46]) := Lib.hid (by rw [cntBytes, if_neg h0, if_pos h2])
            clear h0 h2
            go_wp2_with fail
            go_meet
            exact ⟨x ++ [46], rfl, by simp; omega, Lib.hid (by rw [HC.out, ← HXX.out]), HX⟩
          · have h2' : ((l.length : Int) == 2) = false := by rw [beq_eq_false_iff_ne]; omega
            by_cases h3 : 2 < l.length
            · have h3' : (2 : Int) < l.length := by omega
              have HC : Hid (cntBytes l.length = 47 :: little l.length 1) := Lib.hid (by rw [cntBytes, if_neg h0, if_neg h2, if_pos h3])
              clear h0 h2
              go_wp2_with fail
              ((with_reducible refine (little_i (l.length : Int) 1 _ (by omega) (by omega) (by omega)).mono ?_))
              rintro e w2 ⟨y, HY, hyl, rfl, hb2⟩
              go_wp2_with fail
              go_meet
              exact ⟨x ++ (47 :: y), by simp, by simp; omega, Lib.hid (by rw [HC.out, ← HXX.out, HY.out]; rfl), Lib.hid (HX.out.below hb2)⟩
            · have h3' : ¬ (2 : Int) < l.length := by omega
              have HC : Hid (cntBytes l.length = []) := Lib.hid (by rw [cntBytes, if_neg h0, if_neg h2, if_neg h3])
              clear h0 h2
              go_wp2_with fail
              go_meet
              exact ⟨x, rfl, by omega, Lib.hid (by rw [HC.out, List.append_nil]; exact HXX.out), HX⟩
      case rest =>
        obtain ⟨y, rfl, hyl, HY, HX2⟩ := hcut
        obtain ⟨w2, rfl⟩ : ∃ x : World, x = wc := ⟨_, rfl⟩
        clear HX HXX p0 p1 p2 hxl
        have HXM := Lib.hid hx
        clear hx
        go_wp2_with fail
        go_loopw [3, 6] (fun s i wr => ∃ (k : Nat) (z : List UInt8), i = .int .i64 k ∧ k ≤ l.length ∧ s = .string ⟨z.toArray⟩ ∧ z.length ≤ 60 + 4 * k ∧ Hid (z = y ++ (l.take k).flatMap pad4) ∧ Hid (BoxAt w wr root up (.slice a l.length cap) l)) (fun _ i _ => l.length - (intOf i).toNat)
        case atStart => exact ⟨0, y, rfl, Nat.zero_le _, rfl, by omega, Lib.hid (by simp), HX2⟩
        case round =>
          obtain ⟨k, z, rfl, hk, rfl, hzl, HZ, HX⟩ := hrel
          clear HX2
          obtain ⟨p0, p1, p2⟩ := cells3 HX.out.1
          by_cases hlt : k < l.length
          · obtain ⟨b, off, rfl, hcell⟩ : ∃ b off, a = some ⟨b, off, none⟩ ∧ wr.cell? ⟨b, off + k, none⟩ = some (.string ⟨l[k].toArray⟩) := by
              obtain ⟨a', cap', he, _, hc⟩ := HX.out.2.1
              cases he
              have hne : l ≠ [] := by rintro rfl; simp at hlt
              obtain ⟨b, off, rfl, hcc⟩ := hc hne
              exact ⟨b, off, rfl, hcc k hlt⟩
            have hxl := HXM.out _ (List.getElem_mem hlt)
            have HF := Lib.hid (flat_snoc l k hlt)
            have hlt' : (k : Int) < l.length := by omega
            generalize l[k] = x at *
            go_wp2_with fail
            have hw1 : IntKind.i64.wrap (4 - (x.length : Int)) = 4 - (x.length : Int) := IntWalk.i64_in _ (by omega)
            have hw2 : (4 - (x.length : Int)).toNat = 4 - x.length := by omega
            have hw3 : (0 : Int) ≤ 4 - (x.length : Int) := by omega
            have hw4 : 4 - (x.length : Int) ≤ 3 := by omega
            go_quiet (fail)
            clear hw1 hw2
            go_wp2_with fail
            go_roundw
            case rel => exact ⟨k + 1, z ++ (x ++ List.take (4 - x.length) [0, 0, 0]), by go_num, by omega, rfl, by simp; omega, Lib.hid (by rw [HF.out, HZ.out, List.append_assoc]; rfl), Lib.hid (HX.out.drewN _)⟩
            case measure => simp [intOf]; omega
          · have hlt' : ¬ (k : Int) < l.length := by omega
            have HFin : Hid (z = encPath root up l) := Lib.hid (by rw [HE.out, HZ.out, HY.out, List.take_of_length_le (by omega)])
            go_wp2_with fail
            go_ret
            exact ⟨z, HFin, by omega, rfl, Lib.hid HX.out.2.2⟩
end Go.Proofs.Ytihfhkpglfobfaa
