/- BytecodeDecodesPaths: the walk. -/
import Derived.Test.YtihfhkpglfobfaaInc
import Derived.Test.YtihfhkpglfobfaaRpath
import Derived.Test.YtihfhkpglfobfaaLpath
import Derived.Test.YtihfhkpglfobfaaEpath
import Derived.BigRegion
namespace Go.Proofs.Ytihfhkpglfobfaa
open Go.RowKit
attribute [local go_sem] conv1 conv2 ByteArray.mk_append_mk get_mk cut_mk cut_end

theorem conv1d (w : World) (x : Int) : Sem.run Try.prog (convert 35 9 (.slice (some ⟨w.heap.size, 0, none⟩) 1 1)) (w.alloc (.cells #[.int .u8 x] 5)).drew = .ok (.string ⟨[UInt8.ofNat x.toNat].toArray⟩) (w.alloc (.cells #[.int .u8 x] 5)).drew := by
  rw [run_convert_bytes_string _ 35 9 5 _ _ _ Try.underlying35 Try.underlying5 Try.underlying9]
  rw [run_bytesToString _ _ 1 1 [x] (by simp [loadCells, go_sem])]
  rfl
attribute [local go_sem] conv1d
/-- ReadPath, its result as a value that reads so. -/
theorem rpath_e (s : List UInt8) (w : World) (hm : s.length ≤ 9223372036854774000) : Calls Try.prog 27 #[.string ⟨s.toArray⟩] w (PathE w (rdPath s)) :=
  (rpath_any s w hm).mono fun _ _ ⟨v, he, ho, hb⟩ => by
    obtain ⟨a, n, c, rfl⟩ := own_form ho
    exact ⟨a, n, c, he, Lib.hid (StrsAt.of_own ho (by have := rdPath_len s; omega)), Lib.hid hb⟩
/-- The value is a slice that reads as these bytes. -/
def BytesAt (w : World) (v : Value) (l : List Int) : Prop :=
  ∃ (a : Option Addr) (cap : Nat), v = .slice a l.length cap ∧ l.length ≤ 140737488351232 ∧ (l ≠ [] → ∃ b off, a = some ⟨b, off, none⟩ ∧ ∀ k (h : k < l.length), w.cell? ⟨b, off + k, none⟩ = some (.int .u8 l[k])) ∧ ∀ x ∈ l, 0 ≤ x ∧ x ≤ 255
theorem BytesAt.alloc {w : World} {v : Value} {l : List Int} (h : BytesAt w v l) (o : Obj) : BytesAt (w.alloc o) v l := by
  obtain ⟨a, cap, hv, hl, hc, hb⟩ := h
  refine ⟨a, cap, hv, hl, fun hn => ?_, hb⟩
  obtain ⟨b, off, ha, hk⟩ := hc hn
  exact ⟨b, off, ha, fun k h => cell_alloc_old (hk k h) o⟩
theorem one_more {x l : List UInt8} {k m : Nat} (h : x.length ≤ k) : (x ++ List.take 1 (List.drop m l)).length ≤ k + 1 := by
  rw [List.length_append, List.length_take]; omega
theorem epath_pos (root : Bool) (up : Nat) (l : List (List UInt8)) (hx : ∀ x ∈ l, 1 ≤ x.length) : 1 ≤ (encPath root up l).length := by
  unfold encPath
  simp only [List.length_append]
  match l with
  | [] => simp [cntBytes]
  | x :: t =>
    have h := hx x (by simp)
    have : 1 ≤ ((x :: t).flatMap pad4).length := by
      rw [List.flatMap_cons, List.length_append]
      unfold pad4
      rw [List.length_append]
      omega
    omega
theorem tab_len (x : List UInt8) (h : x ∈ segTab) : 1 ≤ x.length ∧ x.length ≤ 4 := by
  simp only [segTab, List.mem_cons, List.not_mem_nil, or_false] at h
  rcases h with rfl | rfl | rfl | rfl | rfl <;> decide
theorem four_cell {w : World} {B : Nat} {s x y z : List UInt8} (h : w.heap[B]? = some (.cells #[.string ⟨s.toArray⟩, .string ⟨x.toArray⟩, .string ⟨y.toArray⟩, .string ⟨z.toArray⟩] 9 (0, 0))) (j : Nat) (hj : j < 4)
    (h0 : s.length ≤ 9223372036854774000) (h1 : x.length ≤ 9223372036854774000) (h2 : y.length ≤ 9223372036854774000) (h3 : z.length ≤ 9223372036854774000) : ∃ t : List UInt8, t.length ≤ 9223372036854774000 ∧ w.cell? ⟨B, j, none⟩ = some (.string ⟨t.toArray⟩) := by
  match j, hj with
  | 0, _ => exact ⟨s, h0, cell_of_row _ _ 0 _ _ _ h⟩
  | 1, _ => exact ⟨x, h1, cell_of_row _ _ 1 _ _ _ h⟩
  | 2, _ => exact ⟨y, h2, cell_of_row _ _ 2 _ _ _ h⟩
  | 3, _ => exact ⟨z, h3, cell_of_row _ _ 3 _ _ _ h⟩
  | n + 4, h => omega
set_option maxRecDepth 100000 in
set_option maxHeartbeats 8000000 in
theorem law_dec (s : List UInt8) (vl : Value) (lb : List Int) (p : Value) (root : Bool) (up : Int) (l : List (List UInt8)) (at_ : Int) (c : Int) (w : World) (hs : s.length ≤ 140737488351232) (hb : BytesAt w vl lb) (hp : PathV w p root up l)
    (hx : ∀ x ∈ l, x.length ≤ 140737488351232) (_hc0 : 0 ≤ c) (_hc1 : c ≤ 255) :
    Calls Try.prog 7 #[.string ⟨s.toArray⟩, vl, p, .int .i64 at_, .int .u8 c] w fun e w' => e = .returned (.bool true) ∧ Below w.heap.size w w' := by
  obtain ⟨v, rfl, hst⟩ := hp
  have HP : Hid (∀ o, PathV (w.alloc o) (.agg #[.bool root, .int .i64 up, v]) root up l) := Lib.hid (fun o => ⟨v, rfl, hst.below ((Below.refl _ _).alloc (Nat.le_refl _) o) hst.lt⟩)
  obtain ⟨pa, pc, rfl, _, _⟩ := hst
  have HBY : Hid (∀ o, BytesAt (w.alloc o) vl lb) := Lib.hid (fun o => hb.alloc o)
  obtain ⟨la, lc, rfl, hll, _, hlb⟩ := hb
  have HLB := Lib.hid hlb
  clear hlb
  go_enter Try.func7, Try.ntmps7
  go_upto_block 0 with fail
  go_cut [11] (fun t wx => ∃ x : List UInt8, t = .string ⟨x.toArray⟩ ∧ x.length ≤ 60 ∧ Hid (PathV wx (.agg #[.bool root, .int .i64 up, .slice pa l.length pc]) root up l) ∧ Hid (wx.heap[w.heap.size]? = some (.cells #[.bool root, .int .i64 up, .slice pa l.length pc] 45 (0, 0))) ∧ Hid (Below w.heap.size w wx))
  case first =>
    go_wp2_with fail
    go_loopw [11, 12] (fun t i wr => ∃ (k n : Nat) (x : List UInt8), i = .int .i64 k ∧ k ≤ 60 ∧ t = .string ⟨x.toArray⟩ ∧ x.length ≤ k ∧ wr = (w.alloc (.cells #[.bool root, .int .i64 up, .slice pa l.length pc] 45)).drewN n) (fun _ i _ => 60 - (intOf i).toNat)
    case atStart => exact ⟨0, 0, [], rfl, by omega, rfl, Nat.le_refl _, rfl⟩
    case round =>
      obtain ⟨k, n, x, rfl, hk, rfl, hxl, rfl⟩ := hrel
      by_cases hlt : k < lb.length ∧ k < 60
      · obtain ⟨hlt, h60⟩ := hlt
        obtain ⟨b, off, rfl, hcell⟩ : ∃ b off, la = some ⟨b, off, none⟩ ∧ (w.alloc (.cells #[.bool root, .int .i64 up, .slice pa l.length pc] 45)).cell? ⟨b, off + k, none⟩ = some (.int .u8 lb[k]) := by
          obtain ⟨a', cap', he, _, hc, _⟩ := HBY.out (.cells #[.bool root, .int .i64 up, .slice pa l.length pc] 45)
          cases he
          have hne : lb ≠ [] := by rintro rfl; simp at hlt
          obtain ⟨b, off, rfl, hcc⟩ := hc hne
          exact ⟨b, off, rfl, hcc k hlt⟩
        obtain ⟨hy0, hy1⟩ := HLB.out _ (List.getElem_mem hlt)
        have hlt' : (k : Int) < lb.length := by omega
        generalize lb[k] = y at *
        obtain ⟨m, hm⟩ : ∃ m : Nat, m = (y.toNat) % 10 := ⟨_, rfl⟩
        have hm9 : m < 10 := by omega
        have hw1 : IntKind.i64.wrap y = y := IntWalk.i64_in _ (by omega)
        have hw2 : y.tmod 10 = (m : Int) := by rw [Int.tmod_eq_emod_of_nonneg hy0]; omega
        have hw3 : IntKind.i64.wrap (m : Int) = (m : Int) := IntWalk.i64_in _ (by omega)
        have hw4 : IntKind.i64.wrap ((m : Int) + 1) = (m : Int) + 1 := IntWalk.i64_in _ (by omega)
        have hw5 : ((m : Int) + 1).toNat = m + 1 := by omega
        have hw6 : (0 : Int) ≤ (m : Int) := by omega
        have hw7 : (m : Int) + 1 ≤ 10 := by omega
        have hw8 : (m : Int) ≤ (m : Int) + 1 := by omega
        have hw9 : (0 : Int) ≤ (m : Int) + 1 := by omega
        clear hm
        go_wp2_with fail
        go_quiet (fail)
        clear hw1 hw2 hw3 hw4 hw5
        go_wp2_with fail
        go_roundw
        case rel => exact ⟨k + 1, _, _, by go_num, by omega, rfl, one_more hxl, rfl⟩
        case measure => simp [intOf]; omega
      · have hfin : Hid (∀ n, PathV ((w.alloc (.cells #[.bool root, .int .i64 up, .slice pa l.length pc] 45)).drewN n) (.agg #[.bool root, .int .i64 up, .slice pa l.length pc]) root up l) := Lib.hid (fun n => HP.out _)
        have hfin2 : Hid (((w.alloc (.cells #[.bool root, .int .i64 up, .slice pa l.length pc] 45)).drewN n).heap[w.heap.size]? = some (.cells #[.bool root, .int .i64 up, .slice pa l.length pc] 45 (0, 0))) := Lib.hid (heap_alloc_new w _)
        have hfin3 : Hid (Below w.heap.size w ((w.alloc (.cells #[.bool root, .int .i64 up, .slice pa l.length pc] 45)).drewN n)) := Lib.hid (below_drewN ((Below.refl _ _).alloc (Nat.le_refl _) _) n)
        by_cases hl2 : k < lb.length
        · have h60 : ¬ k < 60 := fun h => hlt ⟨hl2, h⟩
          clear hlt
          go_wp2_with fail
          go_meet
          exact ⟨x, rfl, by omega, Lib.hid (hfin.out n), hfin2, hfin3⟩
        · clear hlt
          go_wp2_with fail
          go_meet
          exact ⟨x, rfl, by omega, Lib.hid (hfin.out n), hfin2, hfin3⟩
  case rest =>
    obtain ⟨x, rfl, hxl, HP1, HW1, HB1⟩ := hcut
    obtain ⟨w1, rfl⟩ : ∃ x : World, x = wc := ⟨_, rfl⟩
    obtain ⟨p0, p1, p2⟩ := cells3 HW1.out
    clear HP HBY HLB
    go_wp2_with fail
    ((with_reducible refine (lpath_any _ root up l _ HP1.out hx).mono ?_))
    rintro e w2 ⟨v2, root2, up2, l2, rfl, hv2, hu2, hr2, hl2, hi2, hb2⟩
    go_wp2_with fail
    ((with_reducible refine (epath_any _ root2 up2 l2 _ hv2 (by omega) (by omega) (fun x hx => tab_len x (hi2 x hx))).mono ?_))
    rintro e w3 ⟨u, HU, hul, rfl, HB3⟩
    have hup : 1 ≤ u.length := by rw [HU.out]; exact epath_pos root2 up2 l2 (fun x hx => (tab_len x (hi2 x hx)).1)
    have HB4 : Hid (Below w.heap.size w w3) := Lib.hid (bel_then (bel_then HB1.out (Nat.le_refl _) hb2) (Nat.le_refl _) HB3.out)
    clear hv2 hu2 hr2 hl2 hi2 hb2 HB3 HU HP1 HW1 HB1 p0 p1 p2
    go_wp2_with fail
    ((with_reducible refine (mod_any at_ (u.length : Int) _ (by omega) (by omega)).mono ?_))
    rintro e w' ⟨rfl, rfl⟩
    obtain ⟨k, hk⟩ : ∃ k : Nat, modV at_ (u.length : Int) = k := Int.eq_ofNat_of_zero_le (modV_nonneg _ _ (by omega))
    have hklt : k < u.length := by have := modV_lt at_ (u.length : Int) (by omega); omega
    rw [hk]
    clear hk
    go_upto_region 8 with fail
    have hw1 : IntKind.i64.wrap ((k : Int) + 1) = (k : Int) + 1 := IntWalk.i64_in _ (by omega)
    have hw2 : ((k : Int) + 1).toNat = k + 1 := by omega
    have hw3 : (0 : Int) ≤ (k : Int) + 1 := by omega
    have hw4 : (k : Int) + 1 ≤ u.length := by omega
    have hw5 : (0 : Int) ≤ (k : Int) := by omega
    have hw6 : (k : Int) ≤ u.length := by omega
    go_region
    clear hw1 hw2 hw3 hw4 hw5 hw6
    have hl3 : (List.take k u).length ≤ 9223372036854774000 := by rw [List.length_take]; omega
    have hl4 : (List.take k u ++ UInt8.ofNat c.toNat :: List.drop (k + 1) u).length ≤ 9223372036854774000 := by rw [List.length_append, List.length_cons, List.length_take, List.length_drop]; omega
    generalize List.take k u ++ UInt8.ofNat c.toNat :: List.drop (k + 1) u = z at *
    generalize List.take k u = y at *
    have H4 : Hid (((w3.alloc (.cells #[.int .u8 c] 5)).alloc (.cells #[.string ⟨s.toArray⟩, .string ⟨x.toArray⟩, .string ⟨y.toArray⟩, .string ⟨z.toArray⟩] 9)).drew.heap[w3.heap.size + 1]? = some (.cells #[.string ⟨s.toArray⟩, .string ⟨x.toArray⟩, .string ⟨y.toArray⟩, .string ⟨z.toArray⟩] 9 (0, 0))) := Lib.hid (heap_alloc2_new _ _ _)
    have HB5 : Hid (Below w.heap.size w ((w3.alloc (.cells #[.int .u8 c] 5)).alloc (.cells #[.string ⟨s.toArray⟩, .string ⟨x.toArray⟩, .string ⟨y.toArray⟩, .string ⟨z.toArray⟩] 9)).drew) := Lib.hid (((HB4.out.alloc HB4.out.size _).alloc (by have := HB4.out.size; simp; omega) _).drew)
    go_wp2_with fail
    go_loopw [16] (fun i wr => ∃ j : Nat, i = .int .i64 j ∧ j ≤ 4 ∧ Hid (wr.heap[w3.heap.size + 1]? = some (.cells #[.string ⟨s.toArray⟩, .string ⟨x.toArray⟩, .string ⟨y.toArray⟩, .string ⟨z.toArray⟩] 9 (0, 0))) ∧ Hid (Below w.heap.size w wr)) (fun i _ => 4 - (intOf i).toNat)
    case atStart => exact ⟨0, rfl, by omega, H4, HB5⟩
    case round =>
      obtain ⟨j, rfl, hj, HC, HB⟩ := hrel
      clear H4 HB5 HB4
      by_cases hlt : j < 4
      · obtain ⟨t, htl, htc⟩ := four_cell HC.out j hlt (by omega) (by omega) hl3 hl4
        have hlt' : (j : Int) < 4 := by omega
        go_wp2_with fail
        ((with_reducible refine (path_e t _ htl).mono ?_))
        rintro e w4 ⟨a1, n1, c1, rfl, S1, B1⟩
        have HC1 : Hid (∀ o, (w4.alloc o).heap[w3.heap.size + 1]? = some (.cells #[.string ⟨s.toArray⟩, .string ⟨x.toArray⟩, .string ⟨y.toArray⟩, .string ⟨z.toArray⟩] 9 (0, 0))) := Lib.hid (fun o => blk_alloc (blk_below HC.out B1.out) o)
        have hcc : ∀ o, (w4.alloc o).cell? ⟨w3.heap.size + 1, j, none⟩ = some (.string ⟨t.toArray⟩) := fun o => by
          rw [cell_of_row _ _ j _ _ _ (HC1.out o), ← cell_of_row _ _ j _ _ _ HC.out]; exact htc
        go_wp2_with fail
        ((with_reducible refine (rpath_e t _ htl).mono ?_))
        rintro e w5 ⟨a2, n2, c2, rfl, S2, B2⟩
        clear hcc
        generalize rdPath t = r at *
        have hb2 : Below (w4.heap.size + 1) (w4.alloc (.cells #[.bool r.root, .int .i64 r.up, .slice a1 n1 c1] 45)) w5 := by simpa using B2.out
        have hlt2 : w4.heap.size < w5.heap.size := by have := hb2.size; simp at this; omega
        have HC2 : Hid (w5.heap[w3.heap.size + 1]? = some (.cells #[.string ⟨s.toArray⟩, .string ⟨x.toArray⟩, .string ⟨y.toArray⟩, .string ⟨z.toArray⟩] 9 (0, 0))) := Lib.hid (blk_below (HC1.out _) B2.out)
        have BW : Hid (Below w.heap.size w w5) := Lib.hid (((bel_then HB.out (Nat.le_refl _) B1.out).alloc (Nat.le_trans HB.out.size B1.out.size) _).trans (hb2.mono (by have := HB.out.size; have := B1.out.size; omega)))
        have hsz : w.heap.size ≤ w5.heap.size := BW.out.size
        have S1' : Hid (∀ o, StrsAt (w5.alloc o) (.slice a1 n1 c1) r.segs) := Lib.hid (fun o => by
          have q1 := (S1.out.below ((Below.refl _ _).alloc (Nat.le_refl _) (.cells #[.bool r.root, .int .i64 r.up, .slice a1 n1 c1] 45)) S1.out.lt)
          have q2 := q1.below hb2 (fun a n c hv hn => Nat.lt_succ_of_lt (S1.out.lt a n c hv hn))
          exact q2.below ((Below.refl _ _).alloc (Nat.le_refl _) o) q2.lt)
        have S2' : Hid (∀ o, StrsAt (w5.alloc o) (.slice a2 n2 c2) r.segs) := Lib.hid (fun o => S2.out.below ((Below.refl _ _).alloc (Nat.le_refl _) o) S2.out.lt)
        obtain ⟨k0, k1, k2⟩ := cells3 (bel_new hb2)
        clear S1 S2 B1 B2 HB hb2 HC1
        go_wp2_with fail
        ((with_reducible refine (same_yes _ _ r.root r.up r.segs _ (PathV.mk (S1'.out _)) (PathV.mk (S2'.out _))).mono ?_))
        rintro e w6 ⟨rfl, hb6⟩
        have HC3 : Hid (w6.heap[w3.heap.size + 1]? = some (.cells #[.string ⟨s.toArray⟩, .string ⟨x.toArray⟩, .string ⟨y.toArray⟩, .string ⟨z.toArray⟩] 9 (0, 0))) := Lib.hid (blk_below (blk_alloc HC2.out _) hb6)
        have BW2 : Hid (Below w.heap.size w w6) := Lib.hid (bel_then (BW.out.alloc hsz _) (Nat.le_refl _) hb6)
        clear hb6
        go_wp2_with fail
        go_roundw
        case rel => exact ⟨j + 1, by go_num, by omega, HC3, BW2⟩
        case measure => simp [intOf]; omega
      · have hlt' : ¬ (j : Int) < 4 := by omega
        go_wp2_with fail
        ((with_reducible refine (awake_any _).mono ?_))
        rintro e w' ⟨rfl, hb'⟩
        go_wp2_with fail
        go_ret
        exact ⟨rfl, bel_then HB.out (Nat.le_refl _) hb'⟩
end Go.Proofs.Ytihfhkpglfobfaa
