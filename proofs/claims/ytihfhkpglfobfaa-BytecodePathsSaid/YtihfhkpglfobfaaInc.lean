/- BytecodeIncremental: the walk. -/
import Derived.Test.YtihfhkpglfobfaaIncA
import Derived.Test.YtihfhkpglfobfaaSame
import Derived.Test.YtihfhkpglfobfaaLawInt
import Derived.Deep.DeepCutAuto
namespace Go.Proofs.Ytihfhkpglfobfaa
open Go.RowKit
attribute [local go_sem] conv1 conv2 ByteArray.mk_append_mk get_mk cut_mk cut_end

theorem segsGo_len (s : List UInt8) : ∀ n p acc, (segsGo s n p acc).1.length ≤ acc.length + n
  | 0, _, _ => Nat.le_refl _
  | n + 1, p, acc => by
    rw [segsGo]
    split
    · have := segsGo_len s n (p + 4) (acc ++ [(rdSeg (s.drop p)).1])
      rw [List.length_append, List.length_singleton] at this
      omega
    · exact Nat.zero_le _
theorem rdPath_len (s : List UInt8) : (rdPath s).segs.length ≤ 255 := by
  rw [rdPath_eq]
  generalize rootOf s = r
  generalize upOf s r = u
  generalize posOf s r = p
  unfold pathRest
  have h := rdCnt_spec (s.drop p) (32 - u) (decide (0 < p))
  dsimp only
  split
  · simp [badPath]
  · split
    · split
      · have := segsGo_len s (rdCnt (s.drop p) (32 - u) (decide (0 < p))).1.toNat (p + (rdCnt (s.drop p) (32 - u) (decide (0 < p))).2.1.toNat) []
        simp only [List.length_nil] at this
        show (segsGo _ _ _ _).1.length ≤ 255
        omega
      · simp [badPath]
    · simp [badPath]
/-- Path, its result as a value that reads so. -/
def PathE (w : World) (r : PathR) (e : Ending) (w' : World) : Prop :=
  ∃ a n c, e = .returned (.tuple #[.agg #[.bool r.root, .int .i64 r.up, .slice a n c], .int .i64 r.pos, .int .i64 r.err]) ∧ Hid (StrsAt w' (.slice a n c) r.segs) ∧ Hid (Below w.heap.size w w')
theorem path_e (s : List UInt8) (w : World) (hm : s.length ≤ 9223372036854774000) : Calls Try.prog 26 #[.string ⟨s.toArray⟩] w (PathE w (rdPath s)) :=
  (path_any s w hm).mono fun _ _ ⟨v, he, ho, hb⟩ => by
    obtain ⟨a, n, c, rfl⟩ := own_form ho
    exact ⟨a, n, c, he, Lib.hid (StrsAt.of_own ho (by have := rdPath_len s; omega)), Lib.hid hb⟩

theorem cells_kept {w w2 : World} {cs : Array Value} {t : Nat} (hb : Below (w.heap.size + 1) (w.alloc (.cells cs t)) w2) : w2.heap[w.heap.size]? = some (.cells cs t (0, 0)) :=
  (hb.block _ (by omega)).trans (heap_alloc_new w _)
theorem three_cells {w : World} {b t : Nat} {c0 c1 c2 : Value} (h : w.heap[b]? = some (.cells #[c0, c1, c2] t (0, 0))) : w.cell? ⟨b, 0, none⟩ = some c0 ∧ w.cell? ⟨b, 1, none⟩ = some c1 ∧ w.cell? ⟨b, 2, none⟩ = some c2 :=
  ⟨(cell_of_row w _ 0 _ _ _ h).trans rfl, (cell_of_row w _ 1 _ _ _ h).trans rfl, (cell_of_row w _ 2 _ _ _ h).trans rfl⟩

theorem PathV.mk {w : World} {v : Value} {root : Bool} {up : Int} {l : List (List UInt8)} (h : StrsAt w v l) : PathV w (.agg #[.bool root, .int .i64 up, v]) root up l := ⟨_, rfl, h⟩

set_option maxRecDepth 100000 in
set_option maxHeartbeats 4000000 in
theorem law_inc (s t : List UInt8) (w : World) (_hs : s.length ≤ 140737488351232) (ht : t.length ≤ 140737488351232) :
    Calls Try.prog 8 #[.string ⟨s.toArray⟩, .string ⟨t.toArray⟩] w fun e w' => e = .returned (.bool true) ∧ Below w.heap.size w w' := by
  go_enter Try.func8, Try.ntmps8
  go_wp2_with fail
  go_loopw [5] (fun i wr => ∃ k : Nat, i = .int .i64 k ∧ k ≤ s.length ∧ Hid (Below w.heap.size w wr)) (fun i _ => s.length - (intOf i).toNat)
  case atStart => exact ⟨0, rfl, Nat.zero_le _, Lib.hid (Below.refl _ _)⟩
  case round =>
    obtain ⟨k, rfl, hk, HB⟩ := hrel
    by_cases hlt : k < s.length ∧ k < 300
    · obtain ⟨hlt, h300⟩ := hlt
      have hlk : (List.take k s).length = k := by rw [List.length_take]; omega
      have hl1 : (List.take k s).length ≤ 9223372036854774000 := by omega
      have hl2 : (List.take k s ++ t).length ≤ 9223372036854774000 := by rw [List.length_append]; omega
      clear hlk
      go_wp2_with fail
      ((with_reducible refine (int_e (List.take k s) _ (by omega)).mono ?_))
      rintro e w' ⟨rfl, rfl⟩
      go_wp2_with fail
      ((with_reducible refine (int_e (List.take k s ++ t) _ (by omega)).mono ?_))
      rintro e w' ⟨rfl, rfl⟩
      have HI : Hid ((rdInt (List.take k s)).2.2 ≠ 4 → rdInt (List.take k s ++ t) = rdInt (List.take k s)) := Lib.hid (rdInt_inc _ _)
      generalize rdInt (List.take k s) = x at *
      generalize rdInt (List.take k s ++ t) = y at *
      go_upto_region 6 with fail
      go_cut [60] (fun z wx => z = .bool false ∧ wr = wx)
      case first =>
        by_cases h4 : x.2.2 = 4
        · have h4' : ((x.2.2 : Int) != 4) = false := by simp [h4]
          clear h4
          go_wp2_with fail
          go_meet
          exact ⟨rfl, rfl⟩
        · obtain rfl := HI.out h4
          have h4' : ((y.2.2 : Int) != 4) = true := by rw [bne_iff_ne]; omega
          clear h4
          go_wp2_with fail
          go_meet
          exact ⟨rfl, rfl⟩
      case rest =>
        obtain ⟨rfl, rfl⟩ := hcut
        clear HI
        go_wp2_with fail
        ((with_reducible refine (path_e (List.take k s) _ (by omega)).mono ?_))
        rintro e w1 ⟨a1, n1, c1, rfl, S1, B1⟩
        go_wp2_with fail
        ((with_reducible refine (path_e (List.take k s ++ t) _ (by omega)).mono ?_))
        rintro e w2 ⟨a2, n2, c2, rfl, S2, B2⟩
        have HI : Hid ((rdPath (List.take k s)).err ≠ 4 → rdPath (List.take k s ++ t) = rdPath (List.take k s)) := Lib.hid (rdPath_inc _ _)
        generalize rdPath (List.take k s) = x at *
        generalize rdPath (List.take k s ++ t) = y at *
        have hb2 : Below (w1.heap.size + 1) (w1.alloc (.cells #[.bool x.root, .int .i64 x.up, .slice a1 n1 c1] 45)) w2 := by simpa using B2.out
        have hlt2 : w1.heap.size < w2.heap.size := by have := hb2.size; simp at this; omega
        have BW : Hid (Below w.heap.size w w2) := Lib.hid ((((HB.out.trans (B1.out.mono HB.out.size)).alloc (Nat.le_trans HB.out.size B1.out.size) _)).trans (hb2.mono (by have := HB.out.size; have := B1.out.size; omega)))
        have hsz : w.heap.size ≤ w2.heap.size := BW.out.size
        have S1' : Hid (∀ o, StrsAt (w2.alloc o) (.slice a1 n1 c1) x.segs) := Lib.hid (fun o => by
          have q1 := (S1.out.below ((Below.refl _ _).alloc (Nat.le_refl _) (.cells #[.bool x.root, .int .i64 x.up, .slice a1 n1 c1] 45)) S1.out.lt)
          have q2 := q1.below hb2 (fun a n c hv hn => Nat.lt_succ_of_lt (S1.out.lt a n c hv hn))
          exact q2.below ((Below.refl _ _).alloc (Nat.le_refl _) o) q2.lt)
        have S2' : Hid (∀ o, StrsAt (w2.alloc o) (.slice a2 n2 c2) y.segs) := Lib.hid (fun o => S2.out.below ((Below.refl _ _).alloc (Nat.le_refl _) o) S2.out.lt)
        obtain ⟨k0, k1, k2⟩ := three_cells (cells_kept hb2)
        clear S1 S2 B1 B2 HB hb2
        go_upto_region 10 with fail
        go_cut [96] (fun z wx => z = .bool false ∧ Hid (Below w.heap.size w wx))
        case first =>
          by_cases h4 : x.err = 4
          · have h4' : ((x.err : Int) != 4) = false := by simp [h4]
            clear h4
            go_wp2_with fail
            go_meet
            exact ⟨rfl, Lib.hid (BW.out.alloc hsz _)⟩
          · obtain rfl := HI.out h4
            have h4' : ((y.err : Int) != 4) = true := by rw [bne_iff_ne]; omega
            clear h4
            go_wp2_with fail
            ((with_reducible refine (same_yes _ _ y.root y.up y.segs _ (PathV.mk (S1'.out _)) (PathV.mk (S2'.out _))).mono ?_))
            rintro e w3 ⟨rfl, hb3⟩
            go_wp2_with fail
            go_meet
            exact ⟨rfl, Lib.hid ((BW.out.alloc hsz _).trans (hb3.mono (by simp; omega)))⟩
        case rest =>
          obtain ⟨rfl, HB⟩ := hcut
          clear HI S1' S2' k0 k1 k2 BW hlt2 hsz
          obtain ⟨w3, rfl⟩ : ∃ x : World, x = wc := ⟨_, rfl⟩
          go_wp2_with fail
          ((with_reducible refine (length_e (List.take k s) _ (by omega)).mono ?_))
          rintro e w4 ⟨rfl, hb4⟩
          have B4 : Hid (Below w.heap.size w w4) := Lib.hid (HB.out.trans (hb4.mono HB.out.size))
          clear hb4 HB
          go_wp2_with fail
          ((with_reducible refine (length_e (List.take k s ++ t) _ (by omega)).mono ?_))
          rintro e w5 ⟨rfl, hb5⟩
          have B5 : Hid (Below w.heap.size w w5) := Lib.hid (B4.out.trans (hb5.mono B4.out.size))
          clear hb5 B4
          have HI : Hid ((rdLen (List.take k s)).2.2 ≠ 4 → rdLen (List.take k s ++ t) = rdLen (List.take k s)) := Lib.hid (rdLen_inc _ _)
          generalize rdLen (List.take k s) = x at *
          generalize rdLen (List.take k s ++ t) = y at *
          by_cases h4 : x.2.2 = 4
          · have h4' : ((x.2.2 : Int) != 4) = false := by simp [h4]
            clear h4
            go_wp2_with fail
            go_roundw
            case rel => exact ⟨k + 1, by go_num, by omega, B5⟩
            case measure => simp [intOf]; omega
          · obtain rfl := HI.out h4
            have h4' : ((y.2.2 : Int) != 4) = true := by rw [bne_iff_ne]; omega
            clear h4
            go_wp2_with fail
            go_roundw
            case rel => exact ⟨k + 1, by go_num, by omega, B5⟩
            case measure => simp [intOf]; omega
    · have hpost : Hid (Below w.heap.size w wr) := HB
      by_cases hlk : k < s.length
      · have h300 : ¬ k < 300 := fun h => hlt ⟨hlk, h⟩
        clear hlt
        go_wp2_with fail
        ((with_reducible refine (awake_any _).mono ?_))
        rintro e w' ⟨rfl, hb'⟩
        go_wp2_with fail
        go_ret
        exact ⟨rfl, HB.out.trans (hb'.mono HB.out.size)⟩
      · clear hlt
        go_wp2_with fail
        ((with_reducible refine (awake_any _).mono ?_))
        rintro e w' ⟨rfl, hb'⟩
        go_wp2_with fail
        go_ret
        exact ⟨rfl, HB.out.trans (hb'.mono HB.out.size)⟩
end Go.Proofs.Ytihfhkpglfobfaa
