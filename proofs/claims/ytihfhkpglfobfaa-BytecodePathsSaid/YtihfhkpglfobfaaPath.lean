import Derived.Test.YtihfhkpglfobfaaPathA
import Derived.Deep.CutBlock
import Derived.Deep.DeepCutAuto
import Derived.Deep.AppendLies
import Derived.OneCell
import Derived.WalkSmall
/- Path: the walk. -/
namespace Go.Proofs.Ytihfhkpglfobfaa
open Go.RowKit
theorem cut_end (s : List UInt8) (p : Nat) : List.take (s.length - p) (List.drop p s) = List.drop p s := by rw [← List.length_drop, List.take_length]
attribute [local go_sem] conv1 conv2 ByteArray.mk_append_mk get_mk cut_mk cut_end

/-- The two variables of type Path: the result, and p. -/
def PathAt (w w1 : World) (root : Bool) (up : Int) (v : Value) : Prop :=
  w1.heap[w.heap.size]? = some (.cells #[.bool false, .int .i64 0, .slice none 0 0] 45 (0, 0)) ∧ w1.heap[w.heap.size + 1]? = some (.cells #[.bool root, .int .i64 up, v] 45 (0, 0)) ∧ Below w.heap.size w w1
theorem PathAt.start (w : World) : PathAt w ((w.alloc (.cells #[.bool false, .int .i64 0, .slice none 0 0] 45)).alloc (.cells #[.bool false, .int .i64 0, .slice none 0 0] 45)) false 0 (.slice none 0 0) :=
  ⟨heap_alloc2_old _ _ _, heap_alloc2_new _ _ _, ((Below.refl _ _).alloc (Nat.le_refl _) _).alloc (by simp) _⟩
theorem PathAt.root {w w1 : World} {root : Bool} {up : Int} {v : Value} (h : PathAt w w1 root up v) (r : Bool) : PathAt w (w1.setCell ⟨w.heap.size + 1, 0, none⟩ (.bool r)) r up v :=
  ⟨by rw [heap_setCell_other _ _ _ _ (by simp)]; exact h.1, (heap_setCell_same _ _ 0 _ _ _ h.2.1).trans rfl, h.2.2.setCell (by simp) _⟩
theorem PathAt.up {w w1 : World} {root : Bool} {up : Int} {v : Value} (h : PathAt w w1 root up v) (u : Int) : PathAt w (w1.setCell ⟨w.heap.size + 1, 1, none⟩ (.int .i64 u)) root u v :=
  ⟨by rw [heap_setCell_other _ _ _ _ (by simp)]; exact h.1, (heap_setCell_same _ _ 1 _ _ _ h.2.1).trans rfl, h.2.2.setCell (by simp) _⟩
theorem PathAt.cells {w w1 : World} {root : Bool} {up : Int} {v : Value} (h : PathAt w w1 root up v) : w1.cell? ⟨w.heap.size + 1, 0, none⟩ = some (.bool root) ∧ w1.cell? ⟨w.heap.size + 1, 1, none⟩ = some (.int .i64 up) ∧ w1.cell? ⟨w.heap.size + 1, 2, none⟩ = some v :=
  ⟨(cell_of_row w1 _ 0 _ _ _ h.2.1).trans rfl, (cell_of_row w1 _ 1 _ _ _ h.2.1).trans rfl, (cell_of_row w1 _ 2 _ _ _ h.2.1).trans rfl⟩
theorem PathAt.free {w w1 : World} {root : Bool} {up : Int} {v : Value} (h : PathAt w w1 root up v) (j : Nat) : w1.frozen? ⟨w.heap.size + 1, j, none⟩ = false := frozen_of_row _ _ _ _ _ h.2.1
theorem PathAt.res {w w1 : World} {root : Bool} {up : Int} {v : Value} (h : PathAt w w1 root up v) : w1.cell? ⟨w.heap.size, 0, none⟩ = some (.bool false) ∧ w1.cell? ⟨w.heap.size, 1, none⟩ = some (.int .i64 0) ∧ w1.cell? ⟨w.heap.size, 2, none⟩ = some (.slice none 0 0) :=
  ⟨(cell_of_row w1 _ 0 _ _ _ h.1).trans rfl, (cell_of_row w1 _ 1 _ _ _ h.1).trans rfl, (cell_of_row w1 _ 2 _ _ _ h.1).trans rfl⟩
theorem PathAt.resFree {w w1 : World} {root : Bool} {up : Int} {v : Value} (h : PathAt w w1 root up v) (j : Nat) : w1.frozen? ⟨w.heap.size, j, none⟩ = false := frozen_of_row _ _ _ _ _ h.1
theorem PathAt.drew {w w1 : World} {root : Bool} {up : Int} {v : Value} (h : PathAt w w1 root up v) : PathAt w w1.drew root up v := ⟨h.1, h.2.1, h.2.2.drew⟩
def upOf (s : List UInt8) (root : Bool) : Nat := if root = true then 0 else carets s
def posOf (s : List UInt8) (root : Bool) : Nat := if root = true then 1 else carets s
theorem posOf_le (s : List UInt8) : posOf s (rootOf s) ≤ s.length := by
  unfold posOf
  match s with
  | [] => exact Nat.le_refl _
  | c :: r =>
    split
    · simp
    · exact carets_le _
theorem upOf_le (s : List UInt8) (r : Bool) : upOf s r ≤ posOf s r := by unfold upOf posOf; split <;> omega
theorem rdPath_eq (s : List UInt8) : rdPath s = pathRest s (rootOf s) (upOf s (rootOf s)) (posOf s (rootOf s)) := by
  unfold rdPath upOf posOf
  cases rootOf s <;> rfl
theorem PathAt.seg {w w1 : World} {root : Bool} {up : Int} {v : Value} (h : PathAt w w1 root up v) (u : Value) : PathAt w (w1.setCell ⟨w.heap.size + 1, 2, none⟩ u) root up u :=
  ⟨by rw [heap_setCell_other _ _ _ _ (by simp)]; exact h.1, (heap_setCell_same _ _ 2 _ _ _ h.2.1).trans rfl, h.2.2.setCell (by simp) _⟩
theorem PathAt.lt {w w1 : World} {root : Bool} {up : Int} {v : Value} (h : PathAt w w1 root up v) : w.heap.size + 2 ≤ w1.heap.size := by
  have := lt_of_block h.2.1; omega
theorem PathAt.alloc {w w1 : World} {root : Bool} {up : Int} {v : Value} (h : PathAt w w1 root up v) (o : Obj) : PathAt w (w1.alloc o) root up v := by
  have hl := h.lt
  exact ⟨(Below.heap_alloc _ _ _ (by omega)).trans h.1, (Below.heap_alloc _ _ _ (by omega)).trans h.2.1, h.2.2.alloc (by omega) _⟩
theorem PathAt.grown {w w1 w2 : World} {root : Bool} {up : Int} {v : Value} {row : Option Nat} (h : PathAt w w1 root up v) (hg : w1.grownBy w2 row) (hr : ∀ k, row = some k → w.heap.size + 2 ≤ k) : PathAt w w2 root up v := by
  have hl := h.lt
  refine ⟨(hg.block _ (by omega) ?_).trans h.1, (hg.block _ (by omega) ?_).trans h.2.1, h.2.2.grown hg (by omega) (fun k hk => by have := hr k hk; omega)⟩
  · intro e; have := hr _ e.symm; omega
  · intro e; have := hr _ e.symm; omega
/-- The result is stored: its block, and a row of the call's own. -/
theorem PathAt.put {w w1 : World} {root : Bool} {up : Int} {v : Value} (h : PathAt w w1 root up v) (a b c : Value) :
    (((w1.setCell ⟨w.heap.size, 0, none⟩ a).setCell ⟨w.heap.size, 1, none⟩ b).setCell ⟨w.heap.size, 2, none⟩ c).heap[w.heap.size]? = some (.cells #[a, b, c] 45 (0, 0))
    ∧ Below w.heap.size w (((w1.setCell ⟨w.heap.size, 0, none⟩ a).setCell ⟨w.heap.size, 1, none⟩ b).setCell ⟨w.heap.size, 2, none⟩ c) := by
  refine ⟨?_, ((h.2.2.setCell (by simp) _).setCell (by simp) _).setCell (by simp) _⟩
  have e0 := (heap_setCell_same w1 _ 0 _ _ a h.1)
  have e1 := (heap_setCell_same _ _ 1 _ _ b e0)
  exact (heap_setCell_same _ _ 2 _ _ c e1).trans rfl
theorem own_put {w w1 : World} {v : Value} {n : Nat} {xs : List Value} (h : w1.ownsRow (w.heap.size + 2) 9 1 v n xs) (a b c : Value) :
    (((w1.setCell ⟨w.heap.size, 0, none⟩ a).setCell ⟨w.heap.size, 1, none⟩ b).setCell ⟨w.heap.size, 2, none⟩ c).ownsRow w.heap.size 9 1 v n xs := by
  obtain ⟨hl, hv⟩ := h
  refine ⟨hl, ?_⟩
  rcases hv with hv | ⟨g, cap, cur, h1, h2, h3, h4⟩
  · exact .inl hv
  · refine .inr ⟨g, cap, cur, h1, by omega, ?_, h4⟩
    rw [heap_setCell_other _ _ _ _ (by simp; omega), heap_setCell_other _ _ _ _ (by simp; omega), heap_setCell_other _ _ _ _ (by simp; omega)]
    exact h3
theorem own_seg {w w1 : World} {v : Value} {n : Nat} {xs : List Value} (h : w1.ownsRow (w.heap.size + 2) 9 1 v n xs) (u : Value) :
    (w1.setCell ⟨w.heap.size + 1, 2, none⟩ u).ownsRow (w.heap.size + 2) 9 1 v n xs := by
  obtain ⟨hl, hv⟩ := h
  refine ⟨hl, ?_⟩
  rcases hv with hv | ⟨g, cap, cur, h1, h2, h3, h4⟩
  · exact .inl hv
  · refine .inr ⟨g, cap, cur, h1, by omega, ?_, h4⟩
    rw [heap_setCell_other _ _ _ _ (by simp; omega)]
    exact h3
theorem bad_post {w w1 : World} {root : Bool} {up : Int} {v : Value} (h : PathAt w w1 root up v) (s : List UInt8) (e : Nat) (hr : rdPath s = badPath e) :
    PathPost w (rdPath s) (.returned (.tuple #[.agg #[.bool false, .int .i64 0, .slice none 0 0], .int .i64 0, .int .i64 e])) (((w1.setCell ⟨w.heap.size, 0, none⟩ (.bool false)).setCell ⟨w.heap.size, 1, none⟩ (.int .i64 0)).setCell ⟨w.heap.size, 2, none⟩ (.slice none 0 0)) := by
  rw [hr]
  exact ⟨_, rfl, World.ownsRow_nil _ _ _ _, (h.put _ _ _).2⟩
theorem good_post {w w1 : World} {root : Bool} {up p : Nat} {v : Value} {acc : List (List UInt8)} (h : PathAt w w1 root up v) (ho : w1.ownsRow (w.heap.size + 2) 9 1 v acc.length (acc.map strV)) (s : List UInt8) (hr : rdPath s = ⟨root, up, acc, p, 0⟩) :
    PathPost w (rdPath s) (.returned (.tuple #[.agg #[.bool root, .int .i64 up, v], .int .i64 p, .int .i64 0])) (((w1.setCell ⟨w.heap.size, 0, none⟩ (.bool root)).setCell ⟨w.heap.size, 1, none⟩ (.int .i64 up)).setCell ⟨w.heap.size, 2, none⟩ v) := by
  rw [hr]
  exact ⟨_, rfl, own_put ho _ _ _, (h.put _ _ _).2⟩
theorem rdCnt_spec (l : List UInt8) (most : Int) (pre : Bool) : 0 ≤ (rdCnt l most pre).1 ∧ (rdCnt l most pre).1 ≤ 255 ∧ 0 ≤ (rdCnt l most pre).2.1 ∧ (rdCnt l most pre).2.1 ≤ l.length ∧ 0 ≤ (rdCnt l most pre).2.2 := by
  match l with
  | [] => simp [rdCnt]
  | c :: r =>
    simp only [rdCnt]
    split
    · split <;> simp <;> omega
    · split
      · split <;> simp <;> omega
      · split
        · split
          · simp; omega
          · match r with
            | [] => simp [rdMany]
            | d :: t =>
              have := d.toNat_lt
              simp only [rdMany]
              split
              · simp; omega
              · split <;> simp <;> omega
        · split <;> simp <;> omega
theorem segGo_len (s : List UInt8) : ∀ f i n, (segGo s f i n).2 = 0 → f = 0 ∨ i + f ≤ s.length
  | 0, _, _, _ => .inl rfl
  | f + 1, i, n, h => by
    right
    by_cases hl : i < s.length
    · rw [segGo_some s f i n hl] at h
      cases hn : segNext s[i].toNat i n with
      | none => rw [hn] at h; simp at h
      | some m =>
        rw [hn] at h
        rcases segGo_len s f (i + 1) m h with h0 | h0 <;> omega
    · rw [segGo_none s f i n (by omega)] at h; simp at h
theorem rdSeg_len (s : List UInt8) (h : (rdSeg s).2 = 0) : 4 ≤ s.length := by
  rcases segGo_len s 4 0 0 h with h0 | h0 <;> omega
theorem segGo_take (s : List UInt8) : ∀ f i n, n ≤ i → i + f ≤ 4 → (segGo s f i n).1.length ≤ 4
  | 0, i, n, h, h4 => by simp [segGo]; omega
  | f + 1, i, n, h, h4 => by
    by_cases hl : i < s.length
    · rw [segGo_some s f i n hl]
      cases hn : segNext s[i].toNat i n with
      | none => simp
      | some m =>
        refine segGo_take s f (i + 1) m ?_ (by omega)
        simp only [segNext] at hn
        split at hn
        · cases hn; omega
        · split at hn
          · cases hn
          · split at hn
            · cases hn; omega
            · cases hn
    · rw [segGo_none s f i n (by omega)]; simp
/-- segmentCount, its numbers named. -/
theorem segmentCount_e (s : List UInt8) (most : Int) (pre : Bool) (a b c : Int) (H : Hid (rdCnt s most pre = (a, b, c))) (w : World) (hm : s.length ≤ 9223372036854775000) (h0 : 0 ≤ most) (h255 : most ≤ 255) :
    Calls Try.prog 37 #[.string ⟨s.toArray⟩, .int .i64 most, .bool pre] w fun e w' => e = .returned (.tuple #[.int .i64 a, .int .i64 b, .int .i64 c]) ∧ w' = w :=
  (segmentCount_any s most pre w hm h0 h255).mono fun _ _ ⟨he, hw⟩ => ⟨by rw [he, H.out]; rfl, hw.symm⟩
theorem segment_e (s : List UInt8) (l : List UInt8) (e : Nat) (H : Hid (rdSeg s = (l, e))) (w : World) (hm : s.length ≤ 9223372036854775000) :
    Calls Try.prog 38 #[.string ⟨s.toArray⟩] w fun e' w' => e' = .returned (.tuple #[.string ⟨l.toArray⟩, .int .i64 e]) ∧ w = w' :=
  (segment_any s w hm).mono fun _ _ ⟨he, hw⟩ => ⟨by rw [he, H.out]; rfl, hw⟩
theorem Try.info9 : (Try.prog.info? 9).map (fun i => (i.zero, i.size, i.bytes)) = some (some (.string ByteArray.empty), 1, 16) := by kernel_rfl
theorem segsGo_ok {s : List UInt8} {n p : Nat} {acc : List (List UInt8)} {l : List UInt8} (h : rdSeg (s.drop p) = (l, 0)) : segsGo s (n + 1) p acc = segsGo s n (p + 4) (acc ++ [l]) := by
  rw [segsGo, h, if_pos rfl]
theorem segsGo_bad {s : List UInt8} {n p e : Nat} {acc : List (List UInt8)} {l : List UInt8} (h : rdSeg (s.drop p) = (l, e)) (he : ¬ e = 0) : segsGo s (n + 1) p acc = ([], 0, e) := by
  rw [segsGo, h, if_neg he]
theorem rest_bad {s : List UInt8} {root : Bool} {up pos : Nat} {a b c : Int} (h32 : ¬ 32 < up) (h : rdCnt (s.drop pos) (32 - up) (decide (0 < pos)) = (a, b, c)) (hc : ¬ c = 0) : pathRest s root up pos = badPath c.toNat := by
  rw [pathRest, if_neg h32, h]; exact if_neg hc
theorem rest_ok {s : List UInt8} {root : Bool} {up pos : Nat} {a b : Int} (h32 : ¬ 32 < up) (h : rdCnt (s.drop pos) (32 - up) (decide (0 < pos)) = (a, b, 0)) : pathRest s root up pos = if (segsGo s a.toNat (pos + b.toNat) []).2.2 = 0 then ⟨root, up, (segsGo s a.toNat (pos + b.toNat) []).1, (segsGo s a.toNat (pos + b.toNat) []).2.1, 0⟩ else badPath (segsGo s a.toNat (pos + b.toNat) []).2.2 := by
  rw [pathRest, if_neg h32, h]; exact if_pos rfl
theorem PathAt.drewN {w w1 : World} {root : Bool} {up : Int} {v : Value} (h : PathAt w w1 root up v) (n : Nat) : PathAt w (w1.drewN n) root up v := ⟨by simpa using h.1, by simpa using h.2.1, below_drewN h.2.2 n⟩
/-- The second loop: k of n rounds are behind. -/
def SegRel (w : World) (s : List UInt8) (root : Bool) (up : Nat) (n p0 : Nat) (i6 i62 : Value) (wr : World) : Prop :=
  ∃ (k p : Nat) (acc : List (List UInt8)) (v : Value), i6 = .int .i64 p ∧ i62 = .int .i64 k ∧ k ≤ n ∧ p ≤ s.length ∧ acc.length = k ∧ Hid (segsGo s n p0 [] = segsGo s (n - k) p acc) ∧ Hid (PathAt w wr root up v) ∧ Hid (wr.ownsRow (w.heap.size + 2) 9 1 v acc.length (acc.map strV))
theorem seg_step {w wr w1 : World} {s : List UInt8} {root : Bool} {up n p0 k p : Nat} {acc : List (List UInt8)} {v : Value} {l : List UInt8} {g cap : Nat} {o : Obj} (hk : k < n) (hl : acc.length = k)
    (HG : Hid (segsGo s n p0 [] = segsGo s (n - k) p acc)) (HP : Hid (PathAt w wr root up v)) (HO : Hid (wr.ownsRow (w.heap.size + 2) 9 1 v acc.length (acc.map strV)))
    (HS : Hid (rdSeg (s.drop p) = (l, 0))) (h4 : p + 4 ≤ s.length)
    (H1 : Hid (w1.ownsRow (w.heap.size + 2) 9 1 (.slice (some ⟨g, 0, none⟩) (acc.length + 1) cap) (acc.length + 1) (acc.map strV ++ [.string ⟨l.toArray⟩]))) (H2 : Hid ((wr.alloc o).grownBy w1 v.ownBlock)) :
    SegRel w s root up n p0 (.int .i64 ((p : Int) + 4)) (.int .i64 ((k : Int) + 1)) (w1.setCell ⟨w.heap.size + 1, 2, none⟩ (.slice (some ⟨g, 0, none⟩) (acc.length + 1) cap)) := by
  refine ⟨k + 1, p + 4, acc ++ [l], .slice (some ⟨g, 0, none⟩) (acc.length + 1) cap, by go_num, by go_num, by omega, by omega, by simp [hl], Lib.hid ?_, Lib.hid ?_, Lib.hid ?_⟩
  · rw [HG.out, show n - k = (n - (k + 1)) + 1 by omega, segsGo_ok HS.out]
  · exact ((HP.out.alloc o).grown H2.out (fun k hk => (HO.out.lt k hk).1)).seg _
  · have h := own_seg H1.out (.slice (some ⟨g, 0, none⟩) (acc.length + 1) cap)
    rw [List.length_append, List.map_append]
    exact h
theorem own_form {w : World} {B e z : Nat} {v : Value} {n : Nat} {xs : List Value} (h : w.ownsRow B e z v n xs) : ∃ (a : Option Addr) (m c : Nat), v = .slice a m c := by
  rcases h.2 with ⟨h, _⟩ | ⟨g, cap, cur, h, _⟩
  · exact ⟨_, _, _, h⟩
  · exact ⟨_, _, _, h⟩
theorem ifpos (b : Bool) : (if b = true then (1 : Int) else 0) = (if b = true then (1 : Nat) else 0 : Nat) := by cases b <;> rfl
set_option maxHeartbeats 2000000 in
theorem path_any (s : List UInt8) (w : World) (hm : s.length ≤ 9223372036854774000) : Calls Try.prog 26 #[.string ⟨s.toArray⟩] w (PathPost w (rdPath s)) := by
  have HR := Lib.hid (rdPath_eq s)
  have hple := posOf_le s
  have hule := upOf_le s (rootOf s)
  have HU : Hid (upOf s (rootOf s) = if rootOf s = true then 0 else carets s) := Lib.hid rfl
  have HQ : Hid (posOf s (rootOf s) = if rootOf s = true then 1 else carets s) := Lib.hid rfl
  generalize upOf s (rootOf s) = up at *
  generalize posOf s (rootOf s) = pos at *
  go_enter Try.func26, Try.ntmps26
  go_wp2_with fail
  refine (hasPrefix_any s _ (by omega)).mono ?_
  rintro e w1 ⟨rfl, hw1⟩
  have HP : Hid (PathAt w w1 false 0 (.slice none 0 0)) := Lib.hid (hw1 ▸ PathAt.start w)
  clear hw1
  generalize rootOf s = root at *
  go_upto_if 13 with fail
  go_cut [6] (fun i wx => i = .int .i64 (if root = true then 1 else 0) ∧ Hid (PathAt w wx root 0 (.slice none 0 0)))
  case first =>
    have f0 := HP.out.free 0
    have c0 := HP.out.cells.1
    cases root
    · go_wp2_with fail
      go_meet
      exact ⟨rfl, HP⟩
    · go_wp2_with fail
      go_meet
      exact ⟨rfl, Lib.hid (HP.out.root true)⟩
  case rest =>
    obtain ⟨rfl, HP1⟩ := hcut
    clear HP
    obtain ⟨w2, rfl⟩ : ∃ x : World, x = wc := ⟨_, rfl⟩
    have c0 := HP1.out.cells.1
    go_upto_block 0 with fail
    go_cut [6] (fun i wx => i = .int .i64 pos ∧ w2 = wx)
    case first =>
      cases root
      · have HQ' : Hid (pos = carets s) := HQ
        clear HQ HU HR
        go_wp2_with fail
        go_loop [6] (fun i => ∃ k : Nat, i = .int .i64 k ∧ k ≤ s.length ∧ carets s = k + carets (s.drop k)) (fun i => s.length - (intOf i).toNat)
        case atStart => exact ⟨0, rfl, Nat.zero_le _, by simp⟩
        case round =>
          obtain ⟨k, rfl, hk, hc⟩ := hrel
          have HC := Lib.hid hc
          clear hc
          by_cases hl : k < s.length
          · by_cases h94 : s[k].toNat = 94
            · have h94' : (s[k].toNat : Int) = 94 := by omega
              go_wp2_with fail
              go_round
              case rel => exact ⟨k + 1, by go_num, by omega, by rw [HC.out, carets_yes s k hl h94]⟩
              case measure => simp [intOf]; omega
            · have h94' : ¬ (s[k].toNat : Int) = 94 := by omega
              have HK : Hid (pos = k) := Lib.hid (by rw [HQ'.out, HC.out, carets_no s k hl h94]; omega)
              go_wp2_with fail
              go_meet
              exact ⟨by rw [HK.out], rfl⟩
          · have HK : Hid (pos = k) := Lib.hid (by rw [HQ'.out, HC.out, List.drop_eq_nil_of_le (by omega)]; rfl)
            go_wp2_with fail
            go_meet
            exact ⟨by rw [HK.out], rfl⟩
      · have HQ' : Hid (pos = 1) := HQ
        clear HQ HU HR
        go_wp2_with fail
        refine wp_loop_rounds 1 ?_
        rw [rounds_succ]
        go_wp2_with fail
        go_meet
        exact ⟨by rw [HQ'.out]; rfl, rfl⟩
    case rest =>
      obtain ⟨rfl, rfl⟩ := hcut
      have c1 := HP1.out.cells.2.1
      have f1 := HP1.out.free 1
      go_upto_if 34 with fail
      go_cut [] (fun wx => Hid (PathAt w wx root up (.slice none 0 0)))
      case first =>
        cases root
        · have HE : Hid (up = pos) := Lib.hid (HU.out.trans HQ.out.symm)
          clear HU HQ HR
          go_wp2_with fail
          go_meet
          exact Lib.hid (by rw [HE.out]; exact HP1.out.up pos)
        · have HE : Hid (up = 0) := Lib.hid HU.out
          clear HU HQ HR
          go_wp2_with fail
          go_meet
          exact Lib.hid (by rw [HE.out]; exact HP1.out)
      case rest =>
        clear HP1 c0 c1 f1 HU HQ
        obtain ⟨w3, rfl⟩ : ∃ x : World, x = wc := ⟨_, rfl⟩
        have HP := hcut
        clear hcut
        have c1 := HP.out.cells.2.1
        have f2 := HP.out.free 2
        obtain ⟨r0, r1, r2⟩ := HP.out.res
        have g0 := HP.out.resFree 0
        have g1 := HP.out.resFree 1
        have g2 := HP.out.resFree 2
        by_cases h32 : 32 < up
        · have h32' : (32 : Int) < up := by omega
          have HR2 : Hid (rdPath s = badPath 3) := Lib.hid (by rw [HR.out, pathRest, if_pos h32])
          go_wp2_with fail
          exact bodyPost_ret (ret_path _ _ _ _ _ _ rfl (HP.out.put _ _ _).1) rfl (bad_post HP.out s 3 HR2.out)
        · have h32' : ¬ (32 : Int) < up := by omega
          obtain ⟨⟨a, b, c⟩, hcn⟩ : ∃ x, x = rdCnt (s.drop pos) (32 - up) (decide (0 < pos)) := ⟨_, rfl⟩
          obtain ⟨ha0, ha1, hb0, hb1, hc0⟩ := rdCnt_spec (s.drop pos) (32 - up) (decide (0 < pos))
          rw [← hcn] at ha0 ha1 hb0 hb1 hc0
          have HC : Hid (rdCnt (s.drop pos) (32 - up) (decide (0 < pos)) = (a, b, c)) := Lib.hid hcn.symm
          clear hcn
          rw [List.length_drop] at hb1
          simp only at ha0 ha1 hb0 hb1 hc0
          have hb2 : (pos : Int) + b ≤ s.length := by omega
          have hl1 : (List.drop pos s).length ≤ 9223372036854775000 := by rw [List.length_drop]; omega
          have h3a : 0 ≤ 32 - (up : Int) := by omega
          have h3b : 32 - (up : Int) ≤ 255 := by omega
          have hwr : IntKind.i64.wrap (32 - (up : Int)) = 32 - (up : Int) := IntWalk.i64_in _ (by omega)
          go_upto_region 12 with fail
          go_quiet ((go_at_call 37; with_reducible refine Calls.quiet_of_same (segmentCount_e (s.drop pos) _ _ a b c HC _ hl1 h3a h3b)))
          clear hwr hl1 h3a h3b
          have HPn : Hid (PathAt w (w3.drewN nq) root up (.slice none 0 0)) := Lib.hid (HP.out.drewN nq)
          by_cases hce : c = 0
          · subst hce
            have HR2 : Hid _ := Lib.hid (HR.out.trans (rest_ok h32 HC.out))
            clear HR HC
            obtain ⟨n, rfl⟩ := Int.eq_ofNat_of_zero_le ha0
            obtain ⟨m, rfl⟩ := Int.eq_ofNat_of_zero_le hb0
            simp only [Int.toNat_natCast] at HR2
            have hpm : pos + m ≤ s.length := by omega
            clear hb2 hb1 ha0 hb0 hc0
            clear HP
            generalize hww : w3.drewN nq = w4 at *
            clear hww
            go_wp2_with fail
            go_loopw [6, 62] (fun i6 i62 wr => SegRel w s root up n (pos + m) i6 i62 wr) (fun _ i _ => n - (intOf i).toNat)
            case atStart => exact ⟨0, pos + m, [], _, by go_num, rfl, Nat.zero_le _, hpm, rfl, Lib.hid rfl, HPn, Lib.hid (World.ownsRow_nil _ _ _ _)⟩
            case round =>
              obtain ⟨k, p, acc, v, rfl, rfl, hk, hp, hacc, HG, HP, HO⟩ := hrel
              have HA := Lib.hid hacc
              have hal : acc.length ≤ n := by omega
              clear hacc HPn
              by_cases hlt : k < n
              · obtain ⟨⟨l, e⟩, hsg⟩ : ∃ x, x = rdSeg (s.drop p) := ⟨_, rfl⟩
                have HS : Hid (rdSeg (s.drop p) = (l, e)) := Lib.hid hsg.symm
                clear hsg
                have c2 := HP.out.cells.2.2
                have f2 := HP.out.free 2
                obtain ⟨r0, r1, r2⟩ := HP.out.res
                have g0 := HP.out.resFree 0
                have g1 := HP.out.resFree 1
                have g2 := HP.out.resFree 2
                by_cases he : e = 0
                · subst he
                  have h4 : p + 4 ≤ s.length := by
                    have := rdSeg_len (s.drop p) (by rw [HS.out])
                    rw [List.length_drop] at this
                    omega
                  obtain ⟨i0, hi, hz0, hz1, hz2⟩ := info_parts Try.info9
                  go_wp2_with fail
                  ((with_reducible refine (segment_e (s.drop p) l 0 HS _ (by rw [List.length_drop]; omega)).mono ?_))
                  rintro e w' ⟨rfl, rfl⟩
                  have hba : w.heap.size + 2 ≤ (wr.alloc (.cells #[.string ⟨l.toArray⟩] 9)).heap.size := by have := HP.out.lt; simp; omega
                  go_wp2_with (at_builtin; refine wpList_append_lies _ rfl _ _ 43 rfl (w.heap.size + 2) 9 i0 _ 1 16 Try.underlying43 hi hz0 hz1 hz2 rfl (by omega) v acc.length _ rfl (HO.out.alloc _) ⟨wr.heap.size, 0, none⟩ 1 1 [.string ⟨l.toArray⟩] rfl rfl (World.news_of_block (heap_alloc_new wr _)) (by intro u hu; simp at hu; subst hu; rfl) (by omega) (by unfold maxLen; omega) (by omega) hba _ rfl ?_; intro g cap w5 hown hgrow hat hlt5; have H1 := Lib.hid hown; have H2 := Lib.hid hgrow; have HP5 : Hid (PathAt w w5 root up v) := Lib.hid ((HP.out.alloc _).grown hgrow (fun k hk => (HO.out.lt k hk).1)); have f5 := HP5.out.free 2; have c5 := HP5.out.cells.2.2; clear hown hgrow hat hlt5 r0 r1 r2 g0 g1 g2 c2 f2)
                  go_roundw
                  case rel => exact seg_step hlt HA.out HG HP HO HS h4 H1 H2
                  case measure => simp [intOf]; omega
                · have he' : ((e : Int) != 0) = true := by simpa using he
                  have HR3 : Hid (rdPath s = badPath e) := Lib.hid (by rw [HR2.out, HG.out, show n - k = (n - k - 1) + 1 by omega, segsGo_bad HS.out he, if_neg he])
                  go_wp2_with fail
                  ((with_reducible refine (segment_e (s.drop p) l e HS _ (by rw [List.length_drop]; omega)).mono ?_))
                  rintro e w' ⟨rfl, rfl⟩
                  go_wp2_with fail
                  exact bodyPost_ret (ret_path _ _ _ _ _ _ rfl (HP.out.put _ _ _).1) rfl (bad_post HP.out s _ HR3.out)
              · obtain rfl : k = n := by omega
                have HR3 : Hid (rdPath s = ⟨root, up, acc, p, 0⟩) := Lib.hid (by rw [HR2.out, HG.out, Nat.sub_self]; rfl)
                obtain ⟨va, vn, vc, rfl⟩ := own_form HO.out
                obtain ⟨c0, c1, c2⟩ := HP.out.cells
                obtain ⟨r0, r1, r2⟩ := HP.out.res
                have g0 := HP.out.resFree 0
                have g1 := HP.out.resFree 1
                have g2 := HP.out.resFree 2
                go_wp2_with fail
                exact bodyPost_ret (ret_path _ _ _ _ _ _ rfl (HP.out.put _ _ _).1) rfl (good_post HP.out HO.out s HR3.out)
          · have HR2 : Hid (rdPath s = badPath c.toNat) := Lib.hid (HR.out.trans (rest_bad h32 HC.out hce))
            clear HR HC
            obtain ⟨c', rfl⟩ := Int.eq_ofNat_of_zero_le hc0
            have hcn : ((c' : Int) != 0) = true := by simpa using hce
            go_wp2_with fail
            exact bodyPost_ret (ret_path _ _ _ _ _ _ rfl (HPn.out.put _ _ _).1) rfl (bad_post HPn.out s c' HR2.out)
end Go.Proofs.Ytihfhkpglfobfaa
