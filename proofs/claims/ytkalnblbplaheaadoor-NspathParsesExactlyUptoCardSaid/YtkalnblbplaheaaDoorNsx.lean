/- NspathSearchOrder: the walk. -/
import Derived.Test.YtkalnblbplaheaaDoorNsu
namespace Go.Proofs.YtkalnblbplaheaaDoor
open Go.RowKit
set_option linter.unusedVariables false
set_option linter.unusedSimpArgs false
attribute [local go_sem] ByteArray.mk_append_mk bs_get bs_cut bs_end

theorem StrsAt.one {w : World} {b : Nat} {x : List UInt8} (h : w.heap[b]? = some (.cells #[strV x] 9 (0, 0))) : StrsAt w (.slice (some ⟨b, 0, none⟩) 1 1) [x] := by
  refine ⟨_, 1, rfl, by simp, ⟨(fun h => by cases h), by simp⟩, fun _ => ⟨b, 0, rfl, fun k hk => ?_⟩⟩
  simp only [List.length_cons, List.length_nil] at hk
  obtain rfl : k = 0 := by omega
  exact (cell_of_row w b 0 _ _ _ h).trans rfl
theorem St.other {w wr : World} {bl : List PB} {ol : List (Value × List (List UInt8))} (h : St w wr bl ol) (o : Obj) : St w (wr.alloc o) bl ol := h.below (newBox wr o).1
theorem St.start {w wr : World} (h : Below w.heap.size w wr) : St w wr [] [] := ⟨h, by simp, by simp, by simp⟩
theorem candJ_full (x : List UInt8) (l : List (List UInt8)) : ∀ j, j ≤ 30 → (candJ x l j).length = j + 1
  | 0, _ => rfl
  | j + 1, h => by
    rw [candJ, if_pos (by omega)]
    have := candJ_full x l j (by omega)
    simp [this]
theorem candJ_get (x : List UInt8) (l : List (List UInt8)) : ∀ j (hj : j ≤ 30) (i : Nat) (hi : i < (candJ x l j).length), (candJ x l j)[i] = l.take (j - i) ++ [x]
  | 0, _, i, hi => by
    obtain rfl : i = 0 := by simp [candJ] at hi; omega
    simp [candJ]
  | j + 1, hj, 0, _ => by
    simp only [candJ, if_pos (show j + 2 ≤ 32 by omega)]
    rfl
  | j + 1, hj, i + 1, hi => by
    have e : candJ x l (j + 1) = (l.take (j + 1) ++ [x]) :: candJ x l j := by rw [candJ, if_pos (by omega)]; rfl
    have hi' : i < (candJ x l j).length := by rw [e] at hi; simpa using hi
    have := candJ_get x l j (by omega) i hi'
    have e2 : (candJ x l (j + 1))[i + 1] = (candJ x l j)[i] := by
      simp only [e, List.getElem_cons_succ]
    rw [e2, this]
    congr 2
    omega
theorem candV_one {l : List (List UInt8)} {x : List UInt8} (h : l.length ≤ 12) (h5 : ∀ y ∈ l, segB y = true) (hx : segB x = true) : candV true 0 l false 0 [x] = candJ x l l.length := by
  unfold candV
  rw [absB_mk (by omega) h5, validB_mk (by omega) (by omega) (fun h => by cases h) (by simp) (.inr (.inr (by simp))) (by simpa using hx)]
  rfl
theorem segB_A : segB [65] = true := by decide
set_option maxRecDepth 100000 in
set_option maxHeartbeats 2000000 in
theorem order_walk (p : Value) (s : List UInt8) (r1 : Bool) (u1 : Int) (l1 : List (List UInt8)) (w : World) (m : Int) (hm : w.cell? ⟨0, 0, none⟩ = some (.int .i64 m)) (hp : PathV w p r1 u1 l1) (hx1 : ∀ x ∈ l1, x.length ≤ 140737488351232) (hs : s.length ≤ 140737488351232) :
    Calls Tryd.prog 8 #[p, .string ⟨s.toArray⟩] w fun e w' => e = .returned (.bool true) ∧ Below w.heap.size w w' := by
  obtain ⟨v1, rfl, s1⟩ := hp
  have HB := Lib.hid (BoxAt.start (root := r1) (up := u1) s1)
  have X1 := Lib.hid (segV_small hx1)
  have HM : Hid (∀ wr, Below w.heap.size w wr → wr.cell? ⟨0, 0, none⟩ = some (.int .i64 m)) := Lib.hid (fun wr h => keep0 hm h (Nat.le_refl _))
  obtain ⟨a1, cap1, rfl, _⟩ := s1.form
  have HSL : Hid (s.length ≤ 9223372036854775000) := Lib.hid (by omega)
  have HSS : Hid ((segV s).length ≤ 9223372036854775000) := Lib.hid (Nat.le_trans (segV_len s) (by omega))
  clear hx1 s1 hm hs
  obtain ⟨L, hL⟩ : ∃ L, Hid (absL l1 = L) := ⟨_, Lib.hid rfl⟩
  have G : Hid (L.length ≤ 12 ∧ ∀ x ∈ L, segB x = true) := Lib.hid (by rw [← hL.out]; exact ⟨absL_len l1, absL_seg l1⟩)
  obtain ⟨c0, c1, c2⟩ := HB.out.cells
  go_enter Tryd.func8, Tryd.ntmps8
  go_wp2_with fail
  ((with_reducible refine (absolute_any _ r1 u1 l1 _ HB.out.pathV X1.out.1 X1.out.2).mono ?_))
  rintro e w1 ⟨v, rfl, ho, hb⟩
  rw [hL.out] at ho
  obtain ⟨aa, ca, rfl⟩ := own_form ho
  have ST : Hid (St w (w1.alloc (pObj true 0 (.slice aa L.length ca))) [⟨w1.heap.size, true, 0, .slice aa L.length ca⟩] [(.slice aa L.length ca, L)]) := Lib.hid (((St.start (HB.out.below hb).2.2).own ho HB.out.2.2.size).new true 0 (.slice aa L.length ca))
  clear hb ho HB c0 c1 c2 X1 hL
  go_upto_region 2 with fail
  generalize (w1.alloc (pObj true 0 (.slice aa L.length ca))) = w2 at *
  go_wp2_with fail
  ((with_reducible refine (seg_any s _ HSL.out).mono ?_))
  rintro e w3 ⟨rfl, hb⟩
  have ST2 := Lib.hid (ST.out.below hb)
  clear hb ST
  have ST := ST2
  clear ST2
  obtain ⟨N, hN⟩ : ∃ N, Hid (segV s = N) := ⟨_, Lib.hid rfl⟩
  rw [hN.out] at HSS ⊢
  unfold strV
  obtain ⟨b, HBB⟩ : ∃ b, Hid (segB N = b) := ⟨_, Lib.hid rfl⟩
  go_upto_if 16 with (go_at_call 27; refine (segmentB_is N b HBB _ HSS.out).mono ?_; rintro e wq ⟨rfl, rfl⟩)
  go_cut [6] (fun v wx => ∃ nm : List UInt8, v = .string ⟨nm.toArray⟩ ∧ Hid (segB nm = true) ∧ wx = w3)
  case first =>
    cases b
    · go_wp2_with fail
      go_meet
      exact ⟨[65], rfl, Lib.hid segB_A, rfl⟩
    · go_wp2_with fail
      go_meet
      exact ⟨N, rfl, HBB, rfl⟩
  case rest =>
    obtain ⟨nm, rfl, HNM, rfl⟩ := hcut
    clear HBB HSS hN
    obtain ⟨w4, rfl⟩ : ∃ x : World, x = wc := ⟨_, rfl⟩
    have HX : Hid (∀ x ∈ L, x.length ≤ 9223372036854775000) := Lib.hid (fun x hx => Nat.le_trans (segB_small (G.out.2 x hx)) (by omega))
    have HXN : Hid (∀ x ∈ [nm], x.length ≤ 9223372036854775000) := Lib.hid (fun x hx => by rw [List.mem_singleton.1 hx]; exact Nat.le_trans (segB_small HNM.out) (by omega))
    obtain ⟨CL, hCL⟩ : ∃ CL, Hid (candJ nm L L.length = CL) := ⟨_, Lib.hid rfl⟩
    have HCL : Hid (CL.length = L.length + 1) := Lib.hid (by rw [← hCL.out]; exact candJ_full nm L L.length (by have := G.out.1; omega))
    have HGET : Hid (∀ i (hi : i < CL.length), CL[i] = L.take (L.length - i) ++ [nm]) := Lib.hid (by
      intro i hi
      have e := hCL.out
      subst e
      exact candJ_get nm L L.length (by have := G.out.1; omega) i hi)
    have HCV : Hid (candV true 0 L false 0 [nm] = CL) := Lib.hid (by rw [candV_one G.out.1 G.out.2 HNM.out]; exact hCL.out)
    have HONE := Lib.hid (StrsAt.one (x := nm) (w := w4.alloc (.cells #[.string ⟨nm.toArray⟩] 9)) (heap_alloc_new w4 _))
    have ST2 := Lib.hid (ST.out.other (.cells #[.string ⟨nm.toArray⟩] 9))
    obtain ⟨c0, c1, c2⟩ := ST.out.cells (b := w1.heap.size) (r := true) (n := 0) (v := .slice aa L.length ca) (by simp)
    have HN := Lib.hid (candidates_any _ _ true false 0 0 L [nm] _ (PathV.mk (ST2.out.strs (l := L) (v := .slice aa L.length ca) (by simp) (by have := G.out.1; omega))) (PathV.mk HONE.out) HX.out HXN.out)
    rw [HCV.out] at HN
    go_wp2_with fail
    ((with_reducible refine HN.out.mono ?_))
    rintro e w5 ⟨v5, rfl, hps, hb⟩
    have ST5 := Lib.hid (ST2.out.below hb)
    have HPS := Lib.hid hps
    obtain ⟨g, cg, rfl, hg, hat⟩ := hps.at (by intro h; have := HCL.out; rw [h] at this; simp at this)
    clear hps hb hg hat HN ST ST2 HONE c0 c1 c2 HCV hCL
    have hcl := HCL.out
    rw [hcl] at HPS ⊢
    clear hcl
    have hL12 := G.out.1
    go_upto_region 6 with fail
    go_wp2_with fail
    ((with_reducible refine (awake_any m _ (HM.out _ ST5.out.bel)).mono ?_))
    rintro e w6 ⟨rfl, hb⟩
    have ST6 := Lib.hid (ST5.out.below hb)
    have HPS6 := Lib.hid (HPS.out.below hb)
    clear ST5 HPS hb
    obtain ⟨c0, c1, c2⟩ := ST6.out.cells (b := w1.heap.size) (r := true) (n := 0) (v := .slice aa L.length ca) (by simp)
    have hne : ((L.length : Int) + 1 != (L.length : Int) + 1) = false := by simp
    go_upto_region 8 with fail
    clear c0 c1 c2 hne
    go_wp2_with fail
    go_loopw [8] (fun i wr => ∃ k : Nat, i = .int .i64 k ∧ k ≤ L.length + 1 ∧ Hid (St w wr [⟨w1.heap.size, true, 0, .slice aa L.length ca⟩] [(.slice aa L.length ca, L)]) ∧ Hid (PsOwn wr (w4.heap.size + 1) (.slice (some ⟨g, 0, none⟩) (L.length + 1) cg) CL)) (fun i _ => L.length + 1 - (intOf i).toNat)
    case atStart => exact ⟨0, rfl, by omega, ST6, Lib.hid (by simpa using HPS6.out)⟩
    case round =>
      clear ST6 HPS6
      obtain ⟨k, rfl, hk, ST, HPS⟩ := hrel
      obtain ⟨w7, rfl⟩ : ∃ x : World, x = wr := ⟨_, rfl⟩
      by_cases hlt : k < L.length + 1
      · obtain ⟨c0, c1, c2⟩ := ST.out.cells (b := w1.heap.size) (r := true) (n := 0) (v := .slice aa L.length ca) (by simp)
        have hnum : ((L.length : Int) - (k : Int)) = ((L.length - k : Nat) : Int) := by omega
        go_upto_region 11 with fail
        obtain ⟨_, _, he, hca⟩ := (ST.out.strs (l := L) (v := .slice aa L.length ca) (by simp) (by have := G.out.1; omega)).form
        injection he with he1 he2 he3
        subst he1 he3
        clear he2
        have HLT : Hid ((L.take (L.length - k)).length = L.length - k) := Lib.hid (by rw [List.length_take]; omega)
        obtain ⟨LT, hLT⟩ : ∃ LT, Hid (L.take (L.length - k) = LT) := ⟨_, Lib.hid rfl⟩
        rw [hLT.out] at HLT
        have hlt2 := HLT.out
        have HFR := Lib.hid ((ST.out.strs (l := L) (v := .slice aa L.length ca) (by simp) (by have := G.out.1; omega)).front (L.length - k) (by omega))
        rw [hLT.out] at HFR
        obtain ⟨WN, hWN⟩ : ∃ WN, Hid (LT ++ [nm] = WN) := ⟨_, Lib.hid rfl⟩
        have HWL : Hid (WN.length ≤ 9223372036854775000) := Lib.hid (by rw [← hWN.out]; simp; omega)
        go_upto_region 12 with (at_builtin; first
          | (refine wpList_append_strs rfl _ _ rfl w7.heap.size _ [] rfl (own_nil _ _) (.slice aa (L.length - k) ca) LT rfl HFR.out (by simp; omega) (Nat.le_refl _) ?_; intro v8 w8 ho hg; obtain ⟨a8, c8, rfl⟩ := own_form ho; have HB8 : Hid (Below w7.heap.size w7 (w8.alloc (.cells #[.string ⟨nm.toArray⟩] 9))) := Lib.hid (((Below.refl _ _).grown hg (Nat.le_refl _) (fun k h => by cases h)).trans ((newBox w8 (.cells #[.string ⟨nm.toArray⟩] 9)).1.mono hg.size)); have HO8 : Hid ((w8.alloc (.cells #[.string ⟨nm.toArray⟩] 9)).ownsRow w7.heap.size 9 1 (.slice a8 (L.length - k) c8) LT.length (LT.map strV)) := Lib.hid (by have ho2 := own_below ho (newBox w8 (.cells #[.string ⟨nm.toArray⟩] 9)).1; simp only [List.nil_append] at ho2; rw [← hlt2]; exact ho2); clear ho hg)
          | (refine wpList_append_strs rfl _ _ rfl w7.heap.size _ LT rfl HO8.out (.slice (some ⟨w8.heap.size, 0, none⟩) 1 1) [nm] rfl (StrsAt.one (heap_alloc_new w8 _)) (by simp; omega) HB8.out.size ?_; intro v9 w9 ho hg; rw [hWN.out] at ho; obtain ⟨a9, c9, rfl⟩ := own_form ho; have HB9 : Hid (Below w7.heap.size w7 w9) := Lib.hid (HB8.out.grown hg HB8.out.size (fun k h => own_row HO8.out h)); have HO9 := Lib.hid ho; clear ho hg HB8 HO8))
        have ST9 := Lib.hid (ST.out.below HB9.out)
        have HPS9 := Lib.hid (HPS.out.below HB9.out)
        clear ST HPS c0 c1 c2 HFR
        have hkc : k < CL.length := by rw [HCL.out]; exact hlt
        obtain ⟨g', cg', hv', hgl, hat⟩ := HPS9.out.at (by intro h; rw [h] at hkc; simp at hkc)
        injection hv' with e1 e2 e3
        injection e1 with e1
        injection e1 with e1
        subst e1 e3
        obtain ⟨vk, m0, m1, m2, ok⟩ := hat k hkc
        have HGK := Lib.hid (HGET.out k hkc)
        generalize CL[k] = CK at *
        rw [hLT.out, hWN.out] at HGK
        have hgk := HGK.out
        subst hgk
        obtain ⟨ak, ck, rfl⟩ := own_form ok
        have HOK := Lib.hid ok
        clear ok hat e2 hgl hkc HGK
        go_wp2_with fail
        ((with_reducible refine (same_any _ _ true true 0 0 CK CK _ (PathV.mk (StrsAt.of_own HOK.out HWL.out)) (PathV.mk (StrsAt.of_own HO9.out HWL.out))).mono ?_))
        rintro e w10 ⟨rfl, hb⟩
        rw [sameB_self]
        have ST10 := Lib.hid (ST9.out.below hb)
        have HPS10 := Lib.hid (HPS9.out.below hb)
        clear hb ST9 HPS9 HOK HO9 HB9 m0 m1 m2
        go_wp2_with fail
        go_roundw
        case rel => exact ⟨k + 1, by go_num, by omega, ST10, HPS10⟩
        case measure => simp [intOf]; omega
      · obtain rfl : k = L.length + 1 := by omega
        go_wp2_with fail
        go_ret
        exact ⟨rfl, ST.out.bel⟩
end Go.Proofs.YtkalnblbplaheaaDoor
