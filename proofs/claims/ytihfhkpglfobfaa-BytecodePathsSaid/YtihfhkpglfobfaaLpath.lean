/- The law's path: the walk. -/
import Derived.Test.YtihfhkpglfobfaaSame
import Derived.Test.YtihfhkpglfobfaaMod
import Derived.StillTailTactics
import Derived.Deep.RegionLaw
import Derived.Deep.RegionHeld3
namespace Go.Proofs.Ytihfhkpglfobfaa
open Go.RowKit
attribute [local go_sem] conv1 conv2 ByteArray.mk_append_mk get_mk cut_mk cut_end

/-- The segments that the law's paths are made of. -/
def segTab : List (List UInt8) := [[65], [95, 83, 66], [66, 95], [65, 66, 67, 68], [67, 49]]
def LPathPost (w : World) (e : Ending) (w' : World) : Prop :=
  ∃ (v : Value) (root : Bool) (up : Nat) (l : List (List UInt8)), e = .returned v ∧ PathV w' v root up l ∧ up ≤ 4 ∧ (root = true → up = 0) ∧ l.length ≤ 30 ∧ (∀ x ∈ l, x ∈ segTab) ∧ Below w.heap.size w w'
/-- The three blocks: the parameter, the result, q. -/
def LAt (w wr : World) (root : Bool) (up : Int) (vp : Value) (u : Int) (v : Value) : Prop :=
  wr.heap[w.heap.size]? = some (.cells #[.bool root, .int .i64 up, vp] 45 (0, 0)) ∧ wr.heap[w.heap.size + 1]? = some (.cells #[.bool false, .int .i64 0, .slice none 0 0] 45 (0, 0)) ∧ wr.heap[w.heap.size + 2]? = some (.cells #[.bool root, .int .i64 u, v] 45 (0, 0)) ∧ Below w.heap.size w wr
theorem LAt.set1 {w wr : World} {root : Bool} {up u : Int} {vp v : Value} (h : LAt w wr root up vp u v) (x : Int) : LAt w (wr.setCell ⟨w.heap.size + 2, 1, none⟩ (.int .i64 x)) root up vp x v :=
  ⟨blk_other h.1 _ _ (by simp), blk_other h.2.1 _ _ (by simp), (heap_setCell_same _ _ 1 _ _ _ h.2.2.1).trans rfl, h.2.2.2.setCell (by simp) _⟩
theorem LAt.set2 {w wr : World} {root : Bool} {up u : Int} {vp v : Value} (h : LAt w wr root up vp u v) (x : Value) : LAt w (wr.setCell ⟨w.heap.size + 2, 2, none⟩ x) root up vp u x :=
  ⟨blk_other h.1 _ _ (by simp), blk_other h.2.1 _ _ (by simp), (heap_setCell_same _ _ 2 _ _ _ h.2.2.1).trans rfl, h.2.2.2.setCell (by simp) _⟩
theorem LAt.alloc {w wr : World} {root : Bool} {up u : Int} {vp v : Value} (h : LAt w wr root up vp u v) (o : Obj) : LAt w (wr.alloc o) root up vp u v :=
  ⟨blk_alloc h.1 _, blk_alloc h.2.1 _, blk_alloc h.2.2.1 _, h.2.2.2.alloc h.2.2.2.size _⟩
theorem LAt.drew {w wr : World} {root : Bool} {up u : Int} {vp v : Value} (h : LAt w wr root up vp u v) : LAt w wr.drew root up vp u v := ⟨h.1, h.2.1, h.2.2.1, h.2.2.2.drew⟩
theorem LAt.lt {w wr : World} {root : Bool} {up u : Int} {vp v : Value} (h : LAt w wr root up vp u v) : w.heap.size + 3 ≤ wr.heap.size := by have := lt_of_block h.2.2.1; omega
theorem LAt.grown {w wr w2 : World} {root : Bool} {up u : Int} {vp v : Value} {row : Option Nat} (h : LAt w wr root up vp u v) (hg : wr.grownBy w2 row) (hr : ∀ k, row = some k → w.heap.size + 3 ≤ k) : LAt w w2 root up vp u v :=
  ⟨blk_grown h.1 hg (fun e => by have := hr _ e.symm; omega), blk_grown h.2.1 hg (fun e => by have := hr _ e.symm; omega), blk_grown h.2.2.1 hg (fun e => by have := hr _ e.symm; omega), h.2.2.2.grown hg h.2.2.2.size (fun k hk => by have := hr k hk; omega)⟩
theorem lat_start (w : World) (root : Bool) (up u : Int) (vp : Value) : LAt w (((w.alloc (.cells #[.bool root, .int .i64 up, vp] 45)).alloc (.cells #[.bool false, .int .i64 0, .slice none 0 0] 45)).alloc (.cells #[.bool root, .int .i64 u, .slice none 0 0] 45)) root up vp u (.slice none 0 0) := by
  refine ⟨blk_alloc (heap_alloc2_old _ _ _) _, blk_alloc (heap_alloc2_new _ _ _) _, ?_, (((Below.refl _ _).alloc (Nat.le_refl _) _).alloc (by simp) _).alloc (by simp; omega) _⟩
  have := heap_alloc_new ((w.alloc (.cells #[.bool root, .int .i64 up, vp] 45)).alloc (.cells #[.bool false, .int .i64 0, .slice none 0 0] 45)) (.cells #[.bool root, .int .i64 u, .slice none 0 0] 45)
  simpa using this
theorem tab_cell (w : World) (j : Nat) (hj : j < 5) : ∃ y : List UInt8, y ∈ segTab ∧ y.length ≤ 4 ∧ (w.alloc (.cells #[.string ⟨#[65]⟩, .string ⟨#[95, 83, 66]⟩, .string ⟨#[66, 95]⟩, .string ⟨#[65, 66, 67, 68]⟩, .string ⟨#[67, 49]⟩] 9)).cell? ⟨w.heap.size, j, none⟩ = some (.string ⟨y.toArray⟩) := by
  have h := fun i => cell_of_row _ w.heap.size i _ _ _ (heap_alloc_new w (.cells #[.string ⟨#[65]⟩, .string ⟨#[95, 83, 66]⟩, .string ⟨#[66, 95]⟩, .string ⟨#[65, 66, 67, 68]⟩, .string ⟨#[67, 49]⟩] 9))
  match j, hj with
  | 0, _ => exact ⟨[65], by decide, by decide, h 0⟩
  | 1, _ => exact ⟨[95, 83, 66], by decide, by decide, h 1⟩
  | 2, _ => exact ⟨[66, 95], by decide, by decide, h 2⟩
  | 3, _ => exact ⟨[65, 66, 67, 68], by decide, by decide, h 3⟩
  | 4, _ => exact ⟨[67, 49], by decide, by decide, h 4⟩
  | n + 5, h => omega
def T5 : Obj := .cells #[.string ⟨#[65]⟩, .string ⟨#[95, 83, 66]⟩, .string ⟨#[66, 95]⟩, .string ⟨#[65, 66, 67, 68]⟩, .string ⟨#[67, 49]⟩] 9
theorem cell_alloc_old {w : World} {a : Addr} {v : Value} (h : w.cell? a = some v) (o : Obj) : (w.alloc o).cell? a = some v :=
  (World.cell?_of_block (w := w) (Below.heap_alloc w o a.block (World.block_lt_of_cell? w a h))).trans h
/-- The loop: k segments are made. -/
def LRel (w : World) (root : Bool) (up : Int) (vp : Value) (u : Int) (l : List (List UInt8)) (i : Value) (wr : World) : Prop :=
  ∃ (k : Nat) (acc : List (List UInt8)) (v : Value), i = .int .i64 k ∧ k ≤ l.length ∧ k ≤ 30 ∧ acc.length = k ∧ (∀ x ∈ acc, x ∈ segTab) ∧ Hid (LAt w wr root up vp u v) ∧ Hid (wr.ownsRow (w.heap.size + 3) 9 1 v acc.length (acc.map strV))
theorem l_step {w wr w5 : World} {root : Bool} {up u : Int} {vp v : Value} {l acc : List (List UInt8)} {k g cap : Nat} {y : List UInt8} (hlt : k < l.length) (h30 : k < 30) (ha : acc.length = k) (hi : ∀ x ∈ acc, x ∈ segTab)
    (HL : LAt w wr root up vp u v) (HO : wr.ownsRow (w.heap.size + 3) 9 1 v acc.length (acc.map strV))
    (H1 : w5.ownsRow (w.heap.size + 3) 9 1 (.slice (some ⟨g, 0, none⟩) (acc.length + 1) cap) (acc.length + 1) (acc.map strV ++ [.string ⟨y.toArray⟩])) (H2 : wr.grownBy w5 v.ownBlock) (hy : y ∈ segTab) :
    LRel w root up vp u l (.int .i64 ((k : Int) + 1)) (w5.setCell ⟨w.heap.size + 2, 2, none⟩ (.slice (some ⟨g, 0, none⟩) (acc.length + 1) cap)) := by
  refine ⟨k + 1, acc ++ [y], .slice (some ⟨g, 0, none⟩) (acc.length + 1) cap, by go_num, by omega, by omega, by simp [ha], ?_, Lib.hid ?_, Lib.hid ?_⟩
  · intro x hx
    rcases List.mem_append.1 hx with h | h
    · exact hi x h
    · rw [List.mem_singleton.1 h]; exact hy
  · exact (HL.grown H2 (fun k hk => (HO.lt k hk).1)).set2 _
  · rw [List.length_append, List.map_append]
    exact own_setCell H1 _ _ (by simp)
theorem ret_lpath (tmps : Array Value) (w : World) (b : Nat) (c0 c1 c2 : Value) (h2 : tmps.getD 2 undef = .pointer (some ⟨b, 0, none⟩)) (hb : w.heap[b]? = some (.cells #[c0, c1, c2] 45 (0, 0))) :
    (results Try.f24 tmps).run Try.prog w = .ok (.agg #[c0, c1, c2]) w := by
  have e0 : w.cell? ⟨b, 0, none⟩ = some c0 := (cell_of_row w _ 0 _ _ _ hb).trans rfl
  have e1 : w.cell? ⟨b, 1, none⟩ = some c1 := (cell_of_row w _ 1 _ _ _ hb).trans rfl
  have e2 : w.cell? ⟨b, 2, none⟩ = some c2 := (cell_of_row w _ 2 _ _ _ hb).trans rfl
  have h2' : tmps[2]?.getD undef = .pointer (some ⟨b, 0, none⟩) := by rw [← h2]; simp
  simp [results]
  go_simp
theorem lput {w w1 : World} {root : Bool} {up u : Int} {vp v : Value} (h : LAt w w1 root up vp u v) (a b c : Value) :
    (((w1.setCell ⟨w.heap.size + 1, 0, none⟩ a).setCell ⟨w.heap.size + 1, 1, none⟩ b).setCell ⟨w.heap.size + 1, 2, none⟩ c).heap[w.heap.size + 1]? = some (.cells #[a, b, c] 45 (0, 0))
    ∧ Below w.heap.size w (((w1.setCell ⟨w.heap.size + 1, 0, none⟩ a).setCell ⟨w.heap.size + 1, 1, none⟩ b).setCell ⟨w.heap.size + 1, 2, none⟩ c) := by
  refine ⟨?_, ((h.2.2.2.setCell (by simp) _).setCell (by simp) _).setCell (by simp) _⟩
  have e0 := (heap_setCell_same w1 _ 0 _ _ a h.2.1)
  have e1 := (heap_setCell_same _ _ 1 _ _ b e0)
  exact (heap_setCell_same _ _ 2 _ _ c e1).trans rfl
theorem l_post {w wr : World} {root : Bool} {up : Int} {u : Nat} {vp v : Value} {acc : List (List UInt8)} (HL : LAt w wr root up vp u v) (HO : wr.ownsRow (w.heap.size + 3) 9 1 v acc.length (acc.map strV)) (hu : u ≤ 4) (hr : root = true → u = 0) (ha : acc.length ≤ 30) (hi : ∀ x ∈ acc, x ∈ segTab) :
    LPathPost w (.returned (.agg #[.bool root, .int .i64 u, v])) (((wr.setCell ⟨w.heap.size + 1, 0, none⟩ (.bool root)).setCell ⟨w.heap.size + 1, 1, none⟩ (.int .i64 u)).setCell ⟨w.heap.size + 1, 2, none⟩ v) := by
  have h := own_setCell (own_setCell (own_setCell HO ⟨w.heap.size + 1, 0, none⟩ (.bool root) (by simp)) ⟨w.heap.size + 1, 1, none⟩ (.int .i64 u) (by simp)) ⟨w.heap.size + 1, 2, none⟩ v (by simp)
  exact ⟨_, root, u, acc, rfl, ⟨_, rfl, StrsAt.of_own h (by omega)⟩, hu, hr, ha, hi, (lput HL _ _ _).2⟩
set_option maxHeartbeats 8000000 in
theorem lpath_any (p : Value) (root : Bool) (up : Int) (l : List (List UInt8)) (w : World) (hp : PathV w p root up l) (hx : ∀ x ∈ l, x.length ≤ 140737488351232) :
    Calls Try.prog 24 #[p] w (LPathPost w) := by
  obtain ⟨v, rfl, hs⟩ := hp
  have hm0 := modV_nonneg up 5 (by omega)
  have hm1 := modV_lt up 5 (by omega)
  have HS := Lib.hid hs
  obtain ⟨a, cap, rfl, hl, _⟩ := hs
  go_enter Try.func24, Try.ntmps24
  go_upto_region 1 with fail
  go_cut [3] (fun s3 wx => s3 = .pointer (some ⟨w.heap.size + 2, 0, none⟩) ∧ Hid (LAt w wx root up (.slice a l.length cap) (modV up 5) (.slice none 0 0)))
  case first =>
    go_region_held3 (fun w' => w'.cell? ⟨w.heap.size, 0, none⟩ = some (.bool root) ∧ w'.cell? ⟨w.heap.size, 1, none⟩ = some (.int .i64 up)) (go_keep) (first | (go_at_call 25; refine (mod_any _ _ _ (by omega) (by omega)).mono ?_; rintro e w' ⟨rfl, rfl⟩))
    all_goals (go_wp2_with fail; go_meet; exact ⟨rfl, Lib.hid (lat_start w root up (modV up 5) (.slice a l.length cap)).drew⟩)
  case rest =>
    obtain ⟨rfl, HL⟩ := hcut
    obtain ⟨w1, rfl⟩ : ∃ x : World, x = wc := ⟨_, rfl⟩
    obtain ⟨u0, hu0⟩ : ∃ u0 : Nat, modV up 5 = u0 := Int.eq_ofNat_of_zero_le hm0
    have hu4 : u0 ≤ 4 := by omega
    rw [hu0] at HL
    clear hu0 hm0 hm1
    obtain ⟨p0, p1, p2⟩ := cells3 HL.out.1
    obtain ⟨q0, q1, q2⟩ := cells3 HL.out.2.2.1
    have fq := free3 HL.out.2.2.1 1
    go_upto_if 12 with fail
    go_cut [] (fun wx => ∃ u1 : Nat, u1 ≤ 4 ∧ (root = true → u1 = 0) ∧ Hid (LAt w wx root up (.slice a l.length cap) u1 (.slice none 0 0)))
    case first =>
      cases root
      · go_wp2_with fail
        go_meet
        exact ⟨u0, hu4, (fun h => absurd h (by decide)), HL⟩
      · go_wp2_with fail
        go_meet
        exact ⟨0, Nat.zero_le _, fun _ => rfl, Lib.hid (HL.out.set1 0)⟩
    case rest =>
      obtain ⟨u1, hu1, hr1, HL1⟩ := hcut
      obtain ⟨w2, rfl⟩ : ∃ x : World, x = wc := ⟨_, rfl⟩
      clear p0 p1 p2 q0 q1 q2 fq HL
      have HR1 := Lib.hid hr1
      clear hr1
      obtain ⟨i0, hi, hz0, hz1, hz2⟩ := info_parts Try.info9
      go_wp2_with fail
      go_loopw [4] (fun i wr => LRel w root up (.slice a l.length cap) u1 l i wr) (fun i _ => 30 - (intOf i).toNat)
      case atStart => exact ⟨0, [], _, rfl, Nat.zero_le _, Nat.zero_le _, rfl, (fun x h => by cases h), HL1, Lib.hid (World.ownsRow_nil _ _ _ _)⟩
      case round =>
        obtain ⟨k, acc, v, rfl, hk, hk30, hacc, hin, HL, HO⟩ := hrel
        have HA := Lib.hid hacc
        have HI := Lib.hid hin
        have hal : acc.length ≤ 30 := by omega
        clear hacc hin HL1
        obtain ⟨p0, p1, p2⟩ := cells3 HL.out.1
        obtain ⟨q0, q1, q2⟩ := cells3 HL.out.2.2.1
        have fq := free3 HL.out.2.2.1 2
        by_cases hlt : k < l.length ∧ k < 30
        · obtain ⟨hlt, hlt30⟩ := hlt
          obtain ⟨b, off, rfl, hcell⟩ : ∃ b off, a = some ⟨b, off, none⟩ ∧ wr.cell? ⟨b, off + k, none⟩ = some (.string ⟨l[k].toArray⟩) := by
            obtain ⟨a', cap', he, _, hc⟩ := HS.out
            cases he
            have hne : l ≠ [] := by rintro rfl; simp at hlt
            obtain ⟨b, off, rfl, hcc⟩ := hc hne
            have hb := HS.out.lt _ _ _ rfl hne
            exact ⟨b, off, rfl, by rw [HL.out.2.2.2.cell (p := ⟨b, off + k, none⟩) hb]; exact hcc k hlt⟩
          have hxl : l[k].length ≤ 140737488351232 := hx _ (List.getElem_mem hlt)
          generalize l[k] = x at *
          go_wp2_with fail
          obtain ⟨j, hj⟩ : ∃ j : Nat, j = (x.length + k) % 5 := ⟨_, rfl⟩
          have hj5 : j < 5 := by omega
          have hj0 : (0 : Int) ≤ (j : Int) := by omega
          have hj1 : (j : Int) < 5 := by omega
          obtain ⟨y, hy, hyt, hcy⟩ := tab_cell wr j hj5
          have hw1 : IntKind.i64.wrap ((x.length : Int) + (k : Int)) = (x.length : Int) + (k : Int) := IntWalk.i64_in _ (by omega)
          have hw2 : ((x.length : Int) + (k : Int)).tmod 5 = (j : Int) := by rw [Int.tmod_eq_emod_of_nonneg (by omega)]; omega
          have hw3 : IntKind.i64.wrap (j : Int) = (j : Int) := IntWalk.i64_in _ (by omega)
          clear hj
          have hzl := HL.out.lt
          have HL2 : Hid (LAt w ((wr.alloc T5).alloc (.cells #[.string ⟨y.toArray⟩] 9)).drew root up (.slice (some ⟨b, off, none⟩) l.length cap) u1 v) := Lib.hid ((HL.out.alloc _).alloc _).drew
          have hba : w.heap.size + 3 ≤ ((wr.alloc T5).alloc (.cells #[.string ⟨y.toArray⟩] 9)).drew.heap.size := HL2.out.lt
          have HO2 : Hid (((wr.alloc T5).alloc (.cells #[.string ⟨y.toArray⟩] 9)).drew.ownsRow (w.heap.size + 3) 9 1 v acc.length (acc.map strV)) := Lib.hid ((HO.out.alloc _).alloc _).drew
          have hnew : ∀ j u, [Value.string ⟨y.toArray⟩][j]? = some u → ((wr.alloc T5).alloc (.cells #[.string ⟨y.toArray⟩] 9)).drew.cell? ((⟨wr.heap.size + 1, 0, none⟩ : Addr).add j) = some u := World.news_of_block (heap_alloc2_new wr _ _)
          have a1 := (cells3 (HL.out.alloc T5).1).2.2
          have a2 := (cells3 (HL.out.alloc T5).2.2.1).2.2
          have a3 : (wr.alloc T5).cell? ⟨b, off + k, none⟩ = some (.string ⟨x.toArray⟩) := cell_alloc_old hcell T5
          have a4 := (cells3 ((HL.out.alloc T5).alloc (.cells #[.string ⟨y.toArray⟩] 9)).2.2.1).2.2
          unfold T5 at a1 a2 a3 a4
          have HN := Lib.hid hnew
          have HBA := Lib.hid hba
          clear hnew hba
          unfold T5 at HN HBA HO2 HL2
          go_region_law ((refine step_append_lies _ (by rfl) _ _ _ (by rfl) (w.heap.size + 3) 9 i0 _ 1 16 Try.underlying43 hi hz0 hz1 hz2 (by rfl) (by omega) v acc.length _ (by rfl) HO2.out ⟨wr.heap.size + 1, 0, none⟩ 1 1 [.string ⟨y.toArray⟩] (by rfl) (by rfl) HN.out (by intro u hu; simp at hu; subst hu; rfl) (by omega) (by unfold maxLen; omega) (by omega) HBA.out _ rfl ?_; intro g cap w5 hown hgrow hat hlt5; have H1 := Lib.hid hown; have H2 := Lib.hid hgrow; have HP5 := Lib.hid (HL2.out.grown hgrow (fun k hk => (HO2.out.lt k hk).1)); have f5 := free3 HP5.out.2.2.1 2; have c5 := (cells3 HP5.out.2.2.1).2.2; clear hown hgrow hat hlt5))
          all_goals (clear hw1 hw2 hw3)
          all_goals (try go_wp2)
          all_goals go_roundw
          all_goals first | (case rel => exact l_step hlt hlt30 HA.out HI.out HL2.out HO2.out H1.out H2.out hy) | (case measure => simp [intOf]; omega)
        · obtain ⟨va, vn, vc, rfl⟩ := own_slice HO.out
          obtain ⟨r0, r1, r2⟩ := cells3 HL.out.2.1
          have g0 := free3 HL.out.2.1 0
          have g1 := free3 HL.out.2.1 1
          have g2 := free3 HL.out.2.1 2
          by_cases hl2 : k < l.length
          · have h30 : ¬ k < 30 := fun h => hlt ⟨hl2, h⟩
            clear hlt
            go_wp2_with fail
            exact bodyPost_ret (ret_lpath _ _ _ _ _ _ rfl (lput HL.out _ _ _).1) rfl (l_post HL.out HO.out hu1 HR1.out hal HI.out)
          · clear hlt
            go_wp2_with fail
            exact bodyPost_ret (ret_lpath _ _ _ _ _ _ rfl (lput HL.out _ _ _).1) rfl (l_post HL.out HO.out hu1 HR1.out hal HI.out)
end Go.Proofs.Ytihfhkpglfobfaa
