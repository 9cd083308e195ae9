/- BytecodePaths: the walk. -/
import Derived.Test.YtihfhkpglfobfaaEncA
import Derived.Test.YtihfhkpglfobfaaDec
import Derived.Test.YtihfhkpglfobfaaKit
namespace Go.Proofs.Ytihfhkpglfobfaa
open Go.RowKit
attribute [local go_sem] conv1 conv2 ByteArray.mk_append_mk get_mk cut_mk cut_end

theorem PathV.below {w w' : World} {p : Value} {root : Bool} {up : Int} {l : List (List UInt8)} (h : PathV w p root up l) (hb : Below w.heap.size w w') : PathV w' p root up l := by
  obtain ⟨v, rfl, hs⟩ := h
  exact ⟨v, rfl, hs.below hb hs.lt⟩
theorem epath_is (p : Value) (root : Bool) (up : Nat) (l : List (List UInt8)) (s : List UInt8) (HS : Hid (s = encPath root up l)) (w : World) (hp : PathV w p root up l) (hup : up ≤ 32) (hl : l.length ≤ 255) (hx : ∀ x ∈ l, 1 ≤ x.length ∧ x.length ≤ 4) :
    Calls Try.prog 23 #[p] w fun e w' => e = .returned (.string ⟨s.toArray⟩) ∧ Below w.heap.size w w' :=
  (epath_any p root up l w hp hup hl hx).mono fun _ _ ⟨s', h1, _, he, hb⟩ => ⟨by rw [he, HS.out, h1.out], hb.out⟩
theorem apath_is (bb s : List UInt8) (p : Value) (root : Bool) (up : Int) (l : List (List UInt8)) (HS : Hid (s = bb ++ appPath root up l)) (w : World) (hp : PathV w p root up l) (hx : ∀ x ∈ l, x.length ≤ 9223372036854775000) (hbb : bb.length ≤ 140737488351232) :
    Calls Try.prog 30 #[.string ⟨bb.toArray⟩, p] w fun e w' => e = .returned (.string ⟨s.toArray⟩) ∧ Below w.heap.size w w' := by
  rw [HS.out]; exact apath_any bb p root up l w hp hx hbb
theorem vpath_is (p : Value) (root : Bool) (up : Int) (l : List (List UInt8)) (b : Bool) (HB : Hid (validB root up l = b)) (w : World) (hp : PathV w p root up l) (hx : ∀ x ∈ l, x.length ≤ 9223372036854775000) :
    Calls Try.prog 29 #[p] w fun e w' => e = .returned (.bool b) ∧ Below w.heap.size w w' := by
  rw [← HB.out]; exact validPath_any p root up l w hp hx
/-- The law's first box. -/
def LBox (w wr : World) (root : Bool) (up : Int) (v : Value) (l : List (List UInt8)) : Prop := BoxAt w wr root up v l
set_option maxRecDepth 100000 in
set_option maxHeartbeats 8000000 in
theorem law_paths (bb t : List UInt8) (p : Value) (root : Bool) (up : Int) (l : List (List UInt8)) (w : World) (hbb : bb.length ≤ 140737488351232) (ht : t.length ≤ 140737488351232) (hp : PathV w p root up l) (hx : ∀ x ∈ l, x.length ≤ 140737488351232) :
    Calls Try.prog 9 #[.string ⟨bb.toArray⟩, p, .string ⟨t.toArray⟩] w fun e w' => e = .returned (.bool true) ∧ Below w.heap.size w w' := by
  obtain ⟨v, rfl, hs⟩ := hp
  have HX0 : Hid (BoxAt w (w.alloc (.cells #[.bool root, .int .i64 up, v] 45)) root up v l) := Lib.hid (BoxAt.start hs)
  obtain ⟨a, cap, rfl, hl, hdrop⟩ := hs
  clear hdrop
  have HXB : Hid (∀ x ∈ l, x.length ≤ 9223372036854775000) := Lib.hid (fun x h => by have := hx x h; omega)
  obtain ⟨p0, p1, p2⟩ := HX0.out.cells
  go_enter Try.func9, Try.ntmps9
  go_upto_region 1 with fail
  go_cut [26] (fun z wx => z = .bool false ∧ Hid (BoxAt w wx root up (.slice a l.length cap) l))
  case first =>
    by_cases h100 : l.length < 100
    · have h100' : (l.length : Int) < 100 := by omega
      cases hv : validB root up l
      · have HV := Lib.hid hv
        have HA : Hid (bb = bb ++ appPath root up l) := Lib.hid (by rw [appPath, hv]; simp)
        clear hv
        go_wp2_with fail
        ((with_reducible refine (vpath_is _ root up l false HV _ HX0.out.pathV HXB.out).mono ?_))
        rintro e w1 ⟨rfl, hb1⟩
        have HX1 := Lib.hid (HX0.out.below hb1)
        clear HX0 hb1 p0 p1 p2
        obtain ⟨p0, p1, p2⟩ := HX1.out.cells
        go_wp2_with fail
        ((with_reducible refine (apath_is bb bb _ root up l HA _ HX1.out.pathV HXB.out hbb).mono ?_))
        rintro e w2 ⟨rfl, hb2⟩
        have HX2 := Lib.hid (HX1.out.below hb2)
        clear HX1 hb2 p0 p1 p2
        go_wp2_with fail
        go_meet
        exact ⟨rfl, HX2⟩
      · have HV := Lib.hid hv
        clear hv
        go_wp2_with fail
        ((with_reducible refine (vpath_is _ root up l true HV _ HX0.out.pathV HXB.out).mono ?_))
        rintro e w1 ⟨rfl, hb1⟩
        have HX1 := Lib.hid (HX0.out.below hb1)
        clear HX0 hb1 p0 p1 p2
        go_wp2_with fail
        go_meet
        exact ⟨rfl, HX1⟩
    · have h100' : ¬ (l.length : Int) < 100 := by omega
      go_wp2_with fail
      go_meet
      exact ⟨rfl, HX0⟩
  case rest =>
    obtain ⟨rfl, HX1⟩ := hcut
    obtain ⟨w1, rfl⟩ : ∃ x : World, x = wc := ⟨_, rfl⟩
    clear p0 p1 p2 HX0
    obtain ⟨p0, p1, p2⟩ := HX1.out.cells
    go_wp2_with fail
    ((with_reducible refine (lpath_any _ root up l _ HX1.out.pathV hx).mono ?_))
    rintro e w2 ⟨v2, root2, up2, l2, rfl, hv2, hu2, hr2, hl2, hi2, hb2⟩
    have HB2 : Hid (Below w.heap.size w w2) := Lib.hid (bel_then HX1.out.2.2 (Nat.le_refl _) hb2)
    obtain ⟨v3, rfl, hs3⟩ := hv2
    have HY : Hid (BoxAt w2 (w2.alloc (.cells #[.bool root2, .int .i64 up2, v3] 45)) root2 up2 v3 l2) := Lib.hid (BoxAt.start hs3)
    obtain ⟨a3, cap3, rfl, hl3, hdrop⟩ := hs3
    clear hdrop HX1 p0 p1 p2 hb2 hr2
    have HTL : Hid (∀ x ∈ l2, 1 ≤ x.length ∧ x.length ≤ 4) := Lib.hid (fun x h => tab_len x (hi2 x h))
    have HXC : Hid (∀ x ∈ l2, x.length ≤ 9223372036854775000) := Lib.hid (fun x h => by have := HTL.out x h; omega)
    clear hi2 hx HXB
    obtain ⟨q0, q1, q2⟩ := HY.out.cells
    have hsz := HB2.out.size
    go_upto_region 4 with fail
    cases hv : validB root2 up2 l2
    · have HV := Lib.hid hv
      have HA : Hid (bb = bb ++ appPath root2 up2 l2) := Lib.hid (by rw [appPath, hv]; simp)
      clear hv
      go_wp2_with fail
      ((with_reducible refine (vpath_is _ root2 up2 l2 false HV _ HY.out.pathV HXC.out).mono ?_))
      rintro e w3 ⟨rfl, hb3⟩
      have HY3 := Lib.hid (HY.out.below hb3)
      clear HY hb3 q0 q1 q2
      go_wp2_with fail
      ((with_reducible refine (awake_any _).mono ?_))
      rintro e w4 ⟨rfl, hb4⟩
      have HY4 := Lib.hid (HY3.out.below hb4)
      clear HY3 hb4
      obtain ⟨q0, q1, q2⟩ := HY4.out.cells
      go_wp2_with fail
      ((with_reducible refine (apath_is bb bb _ root2 up2 l2 HA _ HY4.out.pathV HXC.out hbb).mono ?_))
      rintro e w5 ⟨rfl, hb5⟩
      have HY5 := Lib.hid (HY4.out.below hb5)
      clear HY4 hb5 q0 q1 q2
      go_wp2_with fail
      go_ret
      exact ⟨rfl, HB2.out.trans (HY5.out.2.2.mono hsz)⟩
    · have HV := Lib.hid hv
      have HA : Hid (appPath root2 up2 l2 = encPath root2 up2 l2) := Lib.hid (by rw [appPath, hv]; rfl)
      have HR : Hid (∀ t, rdPath (encPath root2 up2 l2 ++ t) = ⟨root2, up2, l2, (encPath root2 up2 l2).length, 0⟩) := Lib.hid (fun t => rdPath_enc root2 up2 l2 t hv)
      clear hv
      go_wp2_with fail
      ((with_reducible refine (vpath_is _ root2 up2 l2 true HV _ HY.out.pathV HXC.out).mono ?_))
      rintro e w3 ⟨rfl, hb3⟩
      have HY3 := Lib.hid (HY.out.below hb3)
      clear HY hb3 q0 q1 q2
      obtain ⟨q0, q1, q2⟩ := HY3.out.cells
      go_wp2_with fail
      ((with_reducible refine (epath_any _ root2 up2 l2 _ HY3.out.pathV (by omega) (by omega) HTL.out).mono ?_))
      rintro e w4 ⟨s, HS, hsl, rfl, hb4⟩
      have HY4 := Lib.hid (HY3.out.below hb4.out)
      clear HY3 hb4 q0 q1 q2
      go_wp2_with fail
      ((with_reducible refine (path_e (s ++ t) _ (by rw [List.length_append]; omega)).mono ?_))
      rintro e w5 ⟨a5, n5, c5, rfl, S5, B5⟩
      have HQ : Hid (rdPath (s ++ t) = ⟨root2, up2, l2, s.length, 0⟩) := Lib.hid (by rw [HS.out]; exact HR.out t)
      rw [HQ.out] at S5 ⊢
      have HY5 := Lib.hid (HY4.out.below B5.out)
      clear HY4 B5 HQ HR
      have HY6 : Hid (∀ o, BoxAt w2 (w5.alloc o) root2 up2 (.slice a3 l2.length cap3) l2) := Lib.hid (fun o => HY5.out.below ((Below.refl _ _).alloc (Nat.le_refl _) o))
      have S6 : Hid (∀ o, StrsAt (w5.alloc o) (.slice a5 n5 c5) l2) := Lib.hid (fun o => S5.out.below ((Below.refl _ _).alloc (Nat.le_refl _) o) S5.out.lt)
      clear HY5 S5
      go_wp2_with fail
      have HZ := Lib.hid (HY6.out (.cells #[.bool root2, .int .i64 up2, .slice a5 n5 c5] 45))
      have HZ8 : Hid ((w5.alloc (.cells #[.bool root2, .int .i64 up2, .slice a5 n5 c5] 45)).heap[w5.heap.size]? = some (.cells #[.bool root2, .int .i64 up2, .slice a5 n5 c5] 45 (0, 0))) := Lib.hid (heap_alloc_new _ _)
      have HS8 := Lib.hid (S6.out (.cells #[.bool root2, .int .i64 up2, .slice a5 n5 c5] 45))
      clear HY6 S6
      have HA2 : Hid (bb ++ s = bb ++ appPath root2 up2 l2) := Lib.hid (by rw [HA.out, HS.out])
      have HB6 : Hid (Below w.heap.size w (w5.alloc (.cells #[.bool root2, .int .i64 up2, .slice a5 n5 c5] 45))) := Lib.hid (HB2.out.trans (HZ.out.2.2.mono hsz))
      generalize w5.alloc (.cells #[.bool root2, .int .i64 up2, .slice a5 n5 c5] 45) = w6 at *
      have HG7 : Hid (∀ x, Grows w6 x → BoxAt w2 x root2 up2 (.slice a3 l2.length cap3) l2) := Lib.hid (fun x hg => HZ.out.below hg)
      have HG8 : Hid (∀ x, Grows w6 x → StrsAt x (.slice a5 n5 c5) l2) := Lib.hid (fun x hg => HS8.out.below hg HS8.out.lt)
      have k70 : ∀ x, Grows w6 x → x.cell? ⟨w2.heap.size, 0, none⟩ = some (.bool root2) := fun x hg => (HG7.out x hg).cells.1
      have k71 : ∀ x, Grows w6 x → x.cell? ⟨w2.heap.size, 1, none⟩ = some (.int .i64 up2) := fun x hg => (HG7.out x hg).cells.2.1
      have k72 : ∀ x, Grows w6 x → x.cell? ⟨w2.heap.size, 2, none⟩ = some (.slice a3 l2.length cap3) := fun x hg => (HG7.out x hg).cells.2.2
      have k80 : ∀ x, Grows w6 x → x.cell? ⟨w5.heap.size, 0, none⟩ = some (.bool root2) := fun x hg => (cells3 (blk_below HZ8.out hg)).1
      have k81 : ∀ x, Grows w6 x → x.cell? ⟨w5.heap.size, 1, none⟩ = some (.int .i64 up2) := fun x hg => (cells3 (blk_below HZ8.out hg)).2.1
      have k82 : ∀ x, Grows w6 x → x.cell? ⟨w5.heap.size, 2, none⟩ = some (.slice a5 n5 c5) := fun x hg => (cells3 (blk_below HZ8.out hg)).2.2
      refine wp_region_grows (by kernel_rfl) (by kernel_rfl) ?_
      repeat (go_big_quiet_step (first
        | (intro hb; rw [k70 _ hb]; simp only [Result.andThen]; rw [k71 _ hb]; simp only; rw [k72 _ hb]; exact ⟨rfl, rfl⟩)
        | (intro hb; rw [k80 _ hb]; simp only [Result.andThen]; rw [k81 _ hb]; simp only; rw [k82 _ hb]; exact ⟨rfl, rfl⟩)
        | (intro hb; go_at_call 13; exact Calls.grows_of hb (awake_any _))
        | (intro hb; go_at_call 30; exact Calls.grows_of hb (apath_is bb (bb ++ s) _ root2 up2 l2 HA2 _ (HG7.out _ hb).pathV HXC.out hbb))
        | (intro hb; go_at_call 23; exact Calls.grows_of hb (epath_is _ root2 up2 l2 s HS _ (HG7.out _ hb).pathV (by omega) (by omega) HTL.out))
        | (intro hb; go_at_call 28; exact Calls.grows_of hb (same_yes _ _ root2 up2 l2 _ (PathV.mk (HG8.out _ hb)) (HG7.out _ hb).pathV))))
      refine wpQuiet_nil ?_
      intro w7 hg
      clear k70 k71 k72 k80 k81 k82
      go_wp2_with fail
      go_ret
      exact ⟨rfl, bel_then HB6.out (Nat.le_refl _) hg⟩
end Go.Proofs.Ytihfhkpglfobfaa
